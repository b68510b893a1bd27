/- The walk of BerShort. -/
import Derived.Test.YtipphdadibdifaaEncode4
import Derived.Test.YtipphdadibdifaaBerDecodes
namespace Go.Proofs.Ytipphdadibdifaa
open Go.RowKit
open Go.PlainAid

theorem encS_list (t : Tl) (h : encE t = 0) : (encS t).data.toList = PB.enc t ∧ (encS t).size = (PB.enc t).length ∧ t.right 1 = true ∧ (PB.enc t).length ≤ 8192 := by
  have h0 := h
  unfold encE at h
  cases hq : t.right 1 with
  | false => rw [if_pos hq] at h; cases h
  | true =>
    rw [if_neg (by rw [hq]; decide)] at h
    by_cases hl : 8192 < (PB.enc t).length
    · rw [if_pos hl] at h; cases h
    · refine ⟨?_, ?_, rfl, by omega⟩
      · unfold encS; rw [if_pos h0]
      · unfold encS; rw [if_pos h0]; exact size_list _

set_option maxRecDepth 100000 in
set_option maxHeartbeats 2000000 in
theorem berShort_walk {S : Nat → Prop} (t : Tl) (cs : Array Value) (cut : Int) (w : World) (ht : TlAt w S t cs) (_ : (Lit.int .i64 cut).wf = true) :
    Calls Try.prog 9 #[.agg cs, .int .i64 cut] w (Holds w) := by
  obtain ⟨x0, x1, x2, x3, xA, xn, xc, rfl⟩ := tlAt_form ht
  have H1 := Lib.hid awake25
  have hb0 : Below w.heap.size w (w.alloc (.cells #[.int .i64 x0, .bool x1, .int .i64 x2, .string x3, .slice xA xn xc] 44)) := (Below.refl _ _).alloc (Nat.le_refl _) _
  have hbk := Bk.new w 44 #[.int .i64 x0, .bool x1, .int .i64 x2, .string x3, .slice xA xn xc]
  generalize hW0 : w.alloc (.cells #[.int .i64 x0, .bool x1, .int .i64 x2, .string x3, .slice xA xn xc] 44) = W0 at *
  have HW0 := Lib.hid hW0
  clear hW0
  have hw := Tl.weigh_le t 0 1 (by omega)
  have HW := Lib.hid fun (W : World) (hb : Below w.heap.size w W) => weigh_any _ _ t _ 0 1 W (Nat.le_refl _) (TlAt.below hb _ _ ht) (by omega) (by omega)
  have HC := Lib.hid fun (W : World) (hb : Below w.heap.size w W) => encodeTop_any S t _ W (TlAt.below hb _ _ ht)
  clear ht
  generalize hwg : t.weigh 0 1 = wg at *
  clear hwg
  by_cases hwl : 30000 < wg
  · have q1 : decide ((30000 : Int) < wg) = true := by simp; omega
    go_enter Try.func9, Try.ntmps9
    go_wp2_with fail
    rw [HW0.out]
    go_wp2_with (first
      | (go_at_call 18; refine (H1.out _).mono ?_; rintro e w1 ⟨rfl, hb1⟩; have hbl1 := hb0.trans (hb1.mono hb0.size); have hbk1 := bk_below hbk hb1; obtain ⟨z0, z1, z2, z3, z4⟩ := hbk1.five; clear hb1)
      | (go_at_call 19; refine (HW.out _ hbl1).mono ?_; rintro e w2 ⟨rfl, hb2⟩)
      | fail)
    go_ret
    exact ⟨rfl, hbl1.trans (hb2.mono hbl1.size)⟩
  · have q1 : decide ((30000 : Int) < wg) = false := by simp; omega
    by_cases he : encE t = 0
    · obtain ⟨hl, hsz, hr, h8⟩ := encS_list t he
      have hp := PB.enc_pos t
      have HCC := Lib.hid fun (W : World) (hb : Below w.heap.size w W) => (show Calls Try.prog 25 #[.agg #[.int .i64 x0, .bool x1, .int .i64 x2, .string x3, .slice xA xn xc]] W (fun e w' => Below W.heap.size W w' ∧ e = .returned (.tuple #[.string (encS t), .int .i64 0])) from (HC.out W hb).mono fun e w' h => ⟨h.1, by rw [h.2, he]; rfl⟩)
      have hk0 : (IntKind.u64.wrap cut) % ((encS t).size : Int) < (encS t).size := Int.emod_lt_of_pos _ (by omega)
      have hk1 : 0 ≤ (IntKind.u64.wrap cut) % ((encS t).size : Int) := Int.emod_nonneg _ (by omega)
      obtain ⟨k, hk⟩ : ∃ k : Nat, (IntKind.u64.wrap cut) % ((encS t).size : Int) = k := ⟨_, (Int.toNat_of_nonneg hk1).symm⟩
      have hu0 : 0 ≤ IntKind.u64.wrap cut := by rw [IntKind.wrap_u64]; omega
      have hk3 : wrap64 ((IntKind.u64.wrap cut).tmod ((encS t).size : Int)) = k := by
        rw [Int.tmod_eq_emod_of_nonneg hu0, hk]
        unfold wrap64
        omega
      have hk4 : k ≤ (encS t).size := by omega
      have hk5 : (k : Int) ≤ (encS t).size := by omega
      have hk6 : 0 ≤ (k : Int) := by omega
      have HD := fun W : World => decode_any ((encS t).extract 0 k) W (by rw [ByteArray.size_extract]; omega)
      rw [extract_list, hl, List.drop_zero, Nat.sub_zero, PB.dec_cut t hr h8 k (by omega)] at HD
      have HD2 := Lib.hid HD
      clear HD HC he hl
      have hs2 : 2 ≤ (encS t).size := by omega
      have hs8 : (encS t).size ≤ 8192 := by omega
      generalize encS t = s at *
      clear hsz hr h8 hp hk0 hk1 hk hu0
      go_enter Try.func9, Try.ntmps9
      go_wp2_with fail
      rw [HW0.out]
      go_wp2_with (first
        | (go_at_call 18; refine (H1.out _).mono ?_; rintro e w1 ⟨rfl, hb1⟩; have hbl1 := hb0.trans (hb1.mono hb0.size); have hbk1 := bk_below hbk hb1; obtain ⟨z0, z1, z2, z3, z4⟩ := hbk1.five; clear hb1)
        | (go_at_call 19; refine (HW.out _ hbl1).mono ?_; rintro e w2 ⟨rfl, hb2⟩; have hbl2 := hbl1.trans (hb2.mono hbl1.size); have hbk2 := bk_below hbk1 hb2; obtain ⟨y0, y1, y2, y3, y4⟩ := hbk2.five; clear hb2)
        | (go_at_call 25; refine (HCC.out _ hbl2).mono ?_; rintro e w3 ⟨hb3, rfl⟩; have hbl3 := hbl2.trans (hb3.mono hbl2.size); clear hb3)
        | (go_at_call 29; refine (HD2.out _).mono ?_; rintro e w4 ⟨hb4, ds, rfl, hu⟩; have hbl4 := hbl3.trans (hb4.mono hbl3.size); obtain ⟨v0, v1, v2, v3, vA, vn, vc, rfl⟩ := tlAt_form hu; dsimp only at hu ⊢; clear hb4)
        | fail)
      have hbl5 := hbl4.alloc hbl4.size (.cells #[.int .i64 v0, .bool v1, .int .i64 v2, .string v3, .slice vA vn vc] 44)
      have hu5 := TlAt.below ((Below.refl _ _).alloc (Nat.le_refl _) (.cells #[.int .i64 v0, .bool v1, .int .i64 v2, .string v3, .slice vA vn vc] 44)) _ _ hu
      refine (sameT_any _ _ (fun _ => True) (.mk 0 false 0 ByteArray.empty []) _ _ _ (Nat.le_refl _) hu5 tlAt_zero).mono ?_
      rintro e w6 ⟨rfl, hb6⟩
      go_wp2_with fail
      go_ret
      exact ⟨rfl, hbl5.trans (hb6.mono hbl5.size)⟩
    · have q2 : (((encE t : Nat) : Int) != 0) = true := by simp; omega
      go_enter Try.func9, Try.ntmps9
      go_wp2_with fail
      rw [HW0.out]
      go_wp2_with (first
        | (go_at_call 18; refine (H1.out _).mono ?_; rintro e w1 ⟨rfl, hb1⟩; have hbl1 := hb0.trans (hb1.mono hb0.size); have hbk1 := bk_below hbk hb1; obtain ⟨z0, z1, z2, z3, z4⟩ := hbk1.five; clear hb1)
        | (go_at_call 19; refine (HW.out _ hbl1).mono ?_; rintro e w2 ⟨rfl, hb2⟩; have hbl2 := hbl1.trans (hb2.mono hbl1.size); have hbk2 := bk_below hbk1 hb2; obtain ⟨y0, y1, y2, y3, y4⟩ := hbk2.five; clear hb2)
        | (go_at_call 25; refine (HC.out _ hbl2).mono ?_; rintro e w3 ⟨hb3, rfl⟩)
        | fail)
      go_ret
      exact ⟨rfl, hbl2.trans (hb3.mono hbl2.size)⟩
end Go.Proofs.Ytipphdadibdifaa
