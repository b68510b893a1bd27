/- Contracts of the device: Cut, Fuse; the nil device. -/
import Derived.Test.YtchldjjfaiikbaaDevStart
import Derived.Test.YtchldjjfaiikbaaDevNew
namespace Go.Proofs.Ytchldjjfaiikbaa
open Go.RowKit
open Go.PlainAid
set_option maxRecDepth 100000
set_option linter.unusedVariables false
set_option linter.unusedSimpArgs false

/-- A device whose own cells alone have turned. -/
theorem DevAt.turned {w w1 : World} {g : Nat} {S : List Nat} {D : DevS} {l m nn : Nat} {B C : Nat → Nat} (h : DevAt w g S D l m nn B C) {off : Bool} {fuse : Int} (f0 : 0 ≤ fuse) (f1 : fuse ≤ 9223372036854775807)
    (hb : Bk w1 g 59 (devCells l D.sec.length m off fuse D.steps D.writes)) (ho : Off [g] w w1) : DevAt w1 g S { D with off := off, fuse := fuse } l m nn B C := by
  have hgl : g ≠ l := Bk.ne h.cells h.sec (by decide)
  have hgm : g ≠ m := h.map.ne_bk h.cells
  refine ⟨⟨h.ok.some, h.ok.most, h.ok.secs, h.ok.rows, f0, f1, h.ok.rowW, h.ok.writesS⟩, hb, ho.bk h.sec (by simp; exact fun e => hgl e.symm), h.map.off ho (by simp; exact fun e => hgm e.symm), h.nn, ?_, h.apart, h.apartL, h.inS, fun b hb => Nat.lt_of_lt_of_le (h.old b hb) ho.size⟩
  intro i hi
  have h1 := h.own i hi
  show w1.ownsRow 0 9 1 (.slice (some ⟨B i, 0, none⟩) (D.waits i).length (C i)) (D.waits i).length (strs (D.waits i))
  refine ho.own h1 (fun b hb => ?_)
  have hne := own_ne h1 h.cells (by decide)
  rw [hb] at hne
  simp
  exact fun e => hne (by rw [e])

set_option maxHeartbeats 4000000 in
theorem dcut_any {g : Nat} {S : List Nat} {D : DevS} {w : World} (hd : Dev w g S D) :
    Calls Try.prog 14 #[ptr g] w (DevPost g S D.cut.1 (.int .i64 D.cut.2) w) := by
  have hd0 := Lib.hid hd
  obtain ⟨l, m, nn, B, C, h⟩ := hd
  obtain ⟨c0, c1, c2, c3, c4, c5⟩ := h.cells.six
  have HD := Lib.hid h
  have g2 := h.cells.frozen 2
  have g3 := h.cells.frozen 3
  clear h
  cases hoff : D.off with
  | true =>
    have HL : Hid (D.cut = (D, 6)) := show _ = _ by unfold DevS.cut; rw [hoff]; rfl
    rw [hoff] at c2
    clear hoff
    go_enter Try.func14, Try.ntmps14
    go_wp2_with fail
    go_ret
    exact devPost_of (by rw [HL.out]) (by rw [HL.out]; rfl) ⟨S, hd0.out, Off.refl _ _, Fresh.refl _ _⟩
  | false =>
    have HL : Hid (D.cut = ({ D with off := true, fuse := 0 }, 0)) := show _ = _ by unfold DevS.cut; rw [hoff]; rfl
    rw [hoff] at c2
    clear hoff
    go_enter Try.func14, Try.ntmps14
    go_wp2_with fail
    go_ret
    have ho : Off [g] w ((w.setCell ⟨g, 2, none⟩ (.bool true)).setCell ⟨g, 3, none⟩ (.int .i64 0)) := ((Off.refl [g] w).setCell (.inl (by simp)) _).setCell (.inl (by simp)) _
    exact devPost_of (by rw [HL.out]) (by rw [HL.out]; rfl) ⟨S, ⟨l, m, nn, B, C, HD.out.turned (Int.le_refl _) (by omega) ((HD.out.cells.put 2 _).put 3 _) ho⟩, ho.mono (fun x hx => .inl (by simp at hx; rw [hx]; exact HD.out.inS.1)), Fresh.refl _ _⟩

set_option maxHeartbeats 4000000 in
theorem dfuse_any {g : Nat} {S : List Nat} {D : DevS} {w : World} (hd : Dev w g S D) (n : Int) (hn : n ≤ 9223372036854775807) :
    Calls Try.prog 17 #[ptr g, .int .i64 n] w (DevPost g S (D.setFuse n).1 (.int .i64 (D.setFuse n).2) w) := by
  have hd0 := Lib.hid hd
  obtain ⟨l, m, nn, B, C, h⟩ := hd
  obtain ⟨c0, c1, c2, c3, c4, c5⟩ := h.cells.six
  have HD := Lib.hid h
  have g3 := h.cells.frozen 3
  clear h
  cases hoff : D.off with
  | true =>
    have HL : Hid (D.setFuse n = (D, 6)) := show _ = _ by unfold DevS.setFuse; rw [hoff]; rfl
    rw [hoff] at c2
    clear hoff
    go_enter Try.func17, Try.ntmps17
    go_wp2_with fail
    go_ret
    exact devPost_of (by rw [HL.out]) (by rw [HL.out]; rfl) ⟨S, hd0.out, Off.refl _ _, Fresh.refl _ _⟩
  | false =>
    obtain ⟨N, hN⟩ : ∃ N, N = max 0 n := ⟨_, rfl⟩
    have HL : Hid (D.setFuse n = ({ D with off := false, fuse := N }, 0)) := show _ = _ by unfold DevS.setFuse; rw [hoff, hN]; cases D; simp at hoff; subst hoff; rfl
    have e6 : max 0 n = N := hN.symm
    have hN0 : 0 ≤ N := by omega
    have hN1 : N ≤ 9223372036854775807 := by omega
    rw [hoff] at c2
    clear hoff hN
    go_enter Try.func17, Try.ntmps17
    go_wp2_with fail
    go_ret
    have ho : Off [g] w (w.setCell ⟨g, 3, none⟩ (.int .i64 N)) := ((Off.refl [g] w).setCell (.inl (by simp)) _)
    have hb := (HD.out.cells.put 3 (.int .i64 N))
    have hoff2 : D.off = false := by
      have h1 := HD.out.cells.six.2.2.1
      rw [c2] at h1
      injection h1 with h1
      injection h1 with h1
      exact h1.symm
    rw [hoff2] at hb
    exact devPost_of (by rw [HL.out]) (by rw [HL.out]; rfl) ⟨S, ⟨l, m, nn, B, C, HD.out.turned hN0 hN1 hb ho⟩, ho.mono (fun x hx => .inl (by simp at hx; rw [hx]; exact HD.out.inS.1)), Fresh.refl _ _⟩

theorem dwrite_nil (i : Int) (s : ByteArray) (w : World) : Calls Try.prog 20 #[.pointer none, .int .i64 i, .string s] w fun e w' => e = .returned (.int .i64 2) ∧ w = w' := by
  go_enter Try.func20, Try.ntmps20
  go_wp2_with fail
  go_ret
  exact ⟨rfl, rfl⟩
theorem dsync_nil (w : World) : Calls Try.prog 19 #[.pointer none] w fun e w' => e = .returned (.int .i64 2) ∧ w = w' := by
  go_enter Try.func19, Try.ntmps19
  go_wp2_with fail
  go_ret
  exact ⟨rfl, rfl⟩
theorem dfuse_nil (n : Int) (w : World) : Calls Try.prog 17 #[.pointer none, .int .i64 n] w fun e w' => e = .returned (.int .i64 2) ∧ w = w' := by
  go_enter Try.func17, Try.ntmps17
  go_wp2_with fail
  go_ret
  exact ⟨rfl, rfl⟩
theorem dcut_nil (w : World) : Calls Try.prog 14 #[.pointer none] w fun e w' => e = .returned (.int .i64 2) ∧ w = w' := by
  go_enter Try.func14, Try.ntmps14
  go_wp2_with fail
  go_ret
  exact ⟨rfl, rfl⟩
end Go.Proofs.Ytchldjjfaiikbaa
