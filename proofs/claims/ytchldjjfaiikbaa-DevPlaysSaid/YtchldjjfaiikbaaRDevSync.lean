/- Contracts of the reference's device: Sync. -/
import Derived.Test.YtchldjjfaiikbaaRDevWrite
import Derived.Laws.OwnMore
namespace Go.Proofs.Ytchldjjfaiikbaa
open Go.RowKit
open Go.PlainAid
set_option maxRecDepth 100000
set_option linter.unusedVariables false
set_option linter.unusedSimpArgs false

/-- Where the sectors' row has turned alone. -/
structure RPass (w1 wr : World) (g l cl : Nat) (D : DevS) (xs : List ByteArray) : Prop where
  sec : wr.ownsRow 0 9 1 (.slice (some ⟨l, 0, none⟩) D.sec.length cl) D.sec.length (strs xs)
  off : Off [l] w1 wr
theorem RPass.put {w1 wr : World} {g l cl : Nat} {D : DevS} {xs : List ByteArray} (h : RPass w1 wr g l cl D xs) (i : Nat) (s : ByteArray) : RPass w1 (wr.setCell ⟨l, i, none⟩ (.string s)).drew g l cl D (xs.set i s) := by
  refine ⟨?_, (h.off.setCell (.inl (by simp)) _).drew⟩
  have := (h.sec.stored i (.string s)).1.drew
  unfold strs at this ⊢
  rw [List.map_set]
  exact this
/-- The device behind such a pass. -/
theorem RDevAt.passed {w1 wr w2 : World} {g : Nat} {S : List Nat} {D : DevS} {l cl : Nat} {A : Option Addr} {cr : Nat} (h : RDevAt w1 g S D l cl A cr) {xs : List ByteArray} (hp : RPass w1 wr g l cl D xs) (hl : xs.length = D.sec.length) {D' : DevS} (hok : D'.Ok) (hs : D'.sec = xs) (hr : D'.row = [])
    (hb : Bk w2 g 50 (rCells (.slice (some ⟨l, 0, none⟩) D.sec.length cl) (.slice none 0 0) D'.off D'.fuse D'.steps D'.writes)) (ho : Off [g] wr w2) :
    ∃ S', RDev w2 g S' D' ∧ Off S w1 w2 ∧ Fresh w1 S S' := by
  obtain ⟨i1, i2, i3⟩ := h.inS
  have hO : Off S w1 w2 := (hp.off.mono (fun b hb => .inl (by simp at hb; rw [hb]; exact i2))).trans (ho.mono (fun b hb => .inl (by simp at hb; rw [hb]; exact i1)))
  refine ⟨S, ⟨l, cl, none, 0, ?_⟩, hO, Fresh.refl _ _⟩
  refine ⟨hok, by rw [hs, hr, hl]; exact hb, ?_, by rw [hr]; exact World.ownsRow_nil _ _ _ _, ⟨i1, i2, fun b hb => by simp [Value.ownBlock] at hb⟩, fun b hb => Nat.lt_of_lt_of_le (h.old b hb) hO.size⟩
  rw [hs, hl]
  exact ho.own hp.sec (fun b hb' => by
    have := own_ne h.sec h.cells (by decide)
    rw [hb'] at this
    simp
    exact fun e => this (by rw [e]))

set_option maxHeartbeats 4000000 in
theorem rsync_any {g : Nat} {S : List Nat} {D : DevS} {w : World} (hd : RDev w g S D) (hb : D.steps ≤ 1000000000) :
    Calls Try.prog 34 #[ptr g] w (RDevPost g S D.sync.1 (.int .i64 D.sync.2) w) := by
  obtain ⟨l, cl, A, cr, h⟩ := hd
  have HD := Lib.hid h
  clear h
  cases hok : D.stepOk with
  | false =>
    have HL : Hid (D.sync = (D.stepped, 6)) := show _ = _ by unfold DevS.sync; rw [hok]; rfl
    go_enter Try.func34, Try.ntmps34
    go_wp2_with fail
    (go_at_call 42)
    refine (rstep_any HD.out hb).mono ?_
    rw [hok]
    rintro e w2 ⟨rfl, hb2, ho2⟩
    have HB2 := Lib.hid hb2
    have HO2 := Lib.hid ho2
    clear hb2 ho2
    go_wp2_with fail
    go_ret
    exact rdevPost_of (by rw [HL.out]) (by rw [HL.out]; rfl) ⟨S, ⟨l, cl, A, cr, HB2.out⟩, HO2.out.mono (fun b hb => .inl (by simp at hb; rw [hb]; exact HD.out.inS.1)), Fresh.refl _ _⟩
  | true =>
    have HL : Hid (D.sync = (D.stepped.synced, 0)) := show _ = _ by unfold DevS.sync; rw [hok]; rfl
    go_enter Try.func34, Try.ntmps34
    go_wp2_with fail
    (go_at_call 42)
    refine (rstep_any HD.out hb).mono ?_
    rw [hok]
    rintro e w2 ⟨rfl, hb2, ho2⟩
    have HB2 := Lib.hid hb2
    have HO2 := Lib.hid ho2
    clear hb2 ho2
    generalize hE : D.stepped = E at *
    have HE := Lib.hid hE
    clear hE
    obtain ⟨n, hn⟩ : ∃ n, n = E.row.length := ⟨_, rfl⟩
    have HN := Lib.hid hn
    have hnb : n ≤ 1000000000 := by
      have h1 := HD.out.ok.rowW
      have h2 := HD.out.ok.writesS
      have h3 := D.stepped_row
      rw [HE.out] at h3
      rw [hn, h3]
      omega
    have HGL : Hid (g ≠ l) := show g ≠ l from fun e => own_ne HB2.out.sec HB2.out.cells (by decide) (by rw [e]; rfl)
    have hmost : E.sec.length ≤ 2048 := HB2.out.ok.most
    clear hn
    go_wp2_with fail
    go_loopw [3] (fun c wr => ∃ k : Nat, k ≤ n ∧ c = .int .i64 (k : Int) ∧ RPass w2 wr g l cl E (rsyncRow E k)) (fun c _ => n - (intOf c).toNat)
    case atStart => exact ⟨0, Nat.zero_le _, rfl, by rw [rsyncRow_zero]; exact HB2.out.sec, Off.refl _ _⟩
    case round =>
      obtain ⟨k, hk, rfl, hp⟩ := hrel
      have HP := Lib.hid hp
      have hgw := hp.off.bk HB2.out.cells (by have := HGL.out; simpa using this)
      obtain ⟨c0, c1, c2, c3, c4, c5⟩ := hgw.six
      have HGW := Lib.hid hgw
      rw [← HN.out] at c1
      clear hp c2 c3 c4 c5
      by_cases hlt : k < n
      · obtain ⟨x, hx⟩ : ∃ x, E.row[k]? = some x := ⟨_, List.getElem?_eq_getElem (by rw [← HN.out]; exact hlt)⟩
        obtain ⟨b, hA, hbS, hblt, hbg, hbl, d0, d1⟩ := HB2.out.wait hx
        subst hA
        have hxm := (HB2.out.ok.rows x (List.mem_of_getElem? hx)).1
        have HX := Lib.hid hx
        have d0' : wr.cell? ⟨b, k * 2, none⟩ = some (.int .i64 (x.1 : Int)) := (HP.out.off.cell (p := ⟨b, k * 2, none⟩) hblt (by simpa using hbl)).trans d0
        have d1' : wr.cell? ⟨b, k * 2 + 1, none⟩ = some (.string x.2) := (HP.out.off.cell (p := ⟨b, k * 2 + 1, none⟩) hblt (by simpa using hbl)).trans d1
        have HSTEP : Hid (rsyncRow E (k + 1) = (rsyncRow E k).set x.1 x.2) := rsyncRow_step hx
        have hfl := HP.out.sec.frozenAt x.1
        have hcl : wr.cell? ⟨l, x.1, none⟩ = some (.string ((rsyncRow E k).getD x.1 ByteArray.empty)) := by
          rw [HP.out.sec.cellAt x.1 (by omega)]
          unfold strs
          rw [List.getElem?_map, List.getElem?_eq_getElem (by rw [rsyncRow_len]; exact hxm), List.getD_eq_getElem?_getD, List.getElem?_eq_getElem (by rw [rsyncRow_len]; exact hxm)]
          rfl
        have x0 : (0 : Int) ≤ (x.1 : Int) := by omega
        have x1 : (x.1 : Int) < (E.sec.length : Int) := by omega
        have k0 : (0 : Int) ≤ (k : Int) := by omega
        have k1 : (k : Int) < (n : Int) := by omega
        have HHG : Hid (g ≠ b ∧ l ≠ b ∧ g ≠ l) := ⟨fun e => hbg e.symm, fun e => hbl e.symm, HGL.out⟩
        generalize x.1 = xi at *
        generalize x.2 = xs at *
        have hbw : b < wr.heap.size := Nat.lt_of_lt_of_le hblt HP.out.off.size
        clear hx d0 d1 hbg hbl hbS hblt hgw
        have HKS : Hid (∀ W, Off [l] wr W → W.cell? ⟨g, 0, none⟩ = some (.slice (some ⟨l, 0, none⟩) E.sec.length cl) ∧ W.cell? ⟨g, 1, none⟩ = some (.slice (some ⟨b, 0, none⟩) n cr) ∧ W.cell? ⟨b, k * 2, none⟩ = some (.int .i64 (xi : Int)) ∧ W.cell? ⟨b, k * 2 + 1, none⟩ = some (.string xs)) := fun W hW => ⟨(hW.cell (p := ⟨g, 0, none⟩) HGW.out.lt (by have := HGL.out; simpa using this)).trans c0, (hW.cell (p := ⟨g, 1, none⟩) HGW.out.lt (by have := HGL.out; simpa using this)).trans c1, (hW.cell (p := ⟨b, k * 2, none⟩) hbw (by have := HHG.out.2.1; simp; exact fun e => this e.symm)).trans d0', (hW.cell (p := ⟨b, k * 2 + 1, none⟩) hbw (by have := HHG.out.2.1; simp; exact fun e => this e.symm)).trans d1'⟩
        go_wp2_with fail
        go_region_held3 (fun W => W.cell? ⟨g, 0, none⟩ = some (.slice (some ⟨l, 0, none⟩) E.sec.length cl) ∧ W.cell? ⟨g, 1, none⟩ = some (.slice (some ⟨b, 0, none⟩) n cr) ∧ W.cell? ⟨b, k * 2, none⟩ = some (.int .i64 (xi : Int)) ∧ W.cell? ⟨b, k * 2 + 1, none⟩ = some (.string xs))
          (first | exact HKS.out _ (Off.refl [l] wr).drew | exact HKS.out _ ((Off.refl [l] wr).setCell (.inl (by simp)) _).drew)
          (fail)
        go_wp2_with fail
        go_roundw
        case rel =>
          have hq : RPass w2 (wr.setCell ⟨l, xi, none⟩ (.string xs)).drew g l cl E (rsyncRow E (k + 1)) := by rw [HSTEP.out]; exact HP.out.put xi xs
          first
            | exact ⟨k + 1, by omega, by go_num, hq⟩
            | ((repeat apply Exists.intro); exact ⟨⟨k + 1, by omega, by go_num, hq⟩, rfl⟩)
        case measure => simp [intOf]; omega
      · obtain rfl : k = n := by omega
        have t1 : decide ((k : Int) < (k : Int)) = false := by simp
        have g1 := HGW.out.frozen 1
        clear hgw
        go_wp2_with fail
        go_ret
        exact rdevPost_of (by rw [HL.out]) (by rw [HL.out]; rfl) (by
          have hsy : rsyncRow E k = E.synced.sec := by rw [HN.out]; exact rsyncRow_end E
          have hp := HP.out
          obtain ⟨S', k1, k2, k3⟩ := HB2.out.passed (D' := E.synced) (w2 := wr.setCell ⟨g, 1, none⟩ (.slice none 0 0)) hp (rsyncRow_len E k) HB2.out.ok.synced hsy.symm rfl (HGW.out.put 1 _) ((Off.refl [g] wr).setCell (.inl (by simp)) _)
          exact ⟨S', k1, (HO2.out.mono (fun b hb => .inl (by simp at hb; rw [hb]; exact HD.out.inS.1))).trans k2, fun b hb => (k3 b hb).imp_right (Nat.le_trans HO2.out.size)⟩)
end Go.Proofs.Ytchldjjfaiikbaa
