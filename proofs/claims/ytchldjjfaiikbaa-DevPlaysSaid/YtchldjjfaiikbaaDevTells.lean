/- Contracts of the device: Writes, Lasts, Waits. -/
import Derived.Test.YtchldjjfaiikbaaDevRead
namespace Go.Proofs.Ytchldjjfaiikbaa
open Go.RowKit
open Go.PlainAid
set_option maxRecDepth 100000
set_option linter.unusedVariables false
set_option linter.unusedSimpArgs false

theorem dwrites_any {g : Nat} {S : List Nat} {D : DevS} {w : World} (hd : Dev w g S D) :
    Calls Try.prog 18 #[ptr g] w fun e w' => e = .returned (.int .i64 D.writes) ∧ w = w' := by
  obtain ⟨l, m, nn, B, C, h⟩ := hd
  obtain ⟨c0, c1, c2, c3, c4, c5⟩ := h.cells.six
  clear h
  go_enter Try.func18, Try.ntmps18
  go_wp2_with fail
  go_ret
  exact ⟨rfl, rfl⟩
theorem dwrites_nil (w : World) : Calls Try.prog 18 #[.pointer none] w fun e w' => e = .returned (.int .i64 0) ∧ w = w' := by
  go_enter Try.func18, Try.ntmps18
  go_wp2_with fail
  go_ret
  exact ⟨rfl, rfl⟩

theorem dlasts_any {g : Nat} {S : List Nat} {D : DevS} {w : World} (hd : Dev w g S D) (i : Int) :
    Calls Try.prog 13 #[ptr g, .int .i64 i] w fun e w' => e = .returned (.string (D.lasts i)) ∧ w = w' := by
  have hd0 := Lib.hid hd
  obtain ⟨l, m, nn, B, C, h⟩ := hd
  obtain ⟨c0, c1, c2, c3, c4, c5⟩ := h.cells.six
  cases hin : D.isIn i with
  | false =>
    have HL : Hid (D.lasts i = ByteArray.empty) := show _ = _ by unfold DevS.lasts; rw [hin]; rfl
    clear h
    go_enter Try.func13, Try.ntmps13
    go_wp2_with (go_at_call 29; refine (dis_any hd0.out i).mono ?_; rintro e w2 ⟨rfl, rfl⟩; rw [hin])
    go_ret
    exact ⟨by rw [HL.out]; rfl, rfl⟩
  | true =>
    obtain ⟨i0, i1⟩ := DevS.isIn_iff.1 hin
    obtain ⟨k, rfl⟩ : ∃ k : Nat, i = (k : Int) := ⟨i.toNat, by omega⟩
    have hk : k < D.sec.length := by omega
    have HL : Hid (D.lasts (k : Int) = D.sec[k]) := show _ = _ by
      unfold DevS.lasts
      rw [hin, if_pos rfl, Int.toNat_natCast, List.getD_eq_getElem?_getD, List.getElem?_eq_getElem hk]
      rfl
    have hc : w.cell? ⟨l, k, none⟩ = some (.string D.sec[k]) := by
      rw [h.sec.cell k]
      simp [strs, hk]
    clear h i1
    go_enter Try.func13, Try.ntmps13
    go_wp2_with (go_at_call 29; refine (dis_any hd0.out _).mono ?_; rintro e w2 ⟨rfl, rfl⟩; rw [hin])
    go_ret
    exact ⟨by rw [HL.out]; rfl, rfl⟩
theorem dlasts_nil (i : Int) (w : World) : Calls Try.prog 13 #[.pointer none, .int .i64 i] w fun e w' => e = .returned (.string ByteArray.empty) ∧ w = w' := by
  go_enter Try.func13, Try.ntmps13
  go_wp2_with (go_at_call 29; refine (dis_nil i _).mono ?_; rintro e w2 ⟨rfl, rfl⟩)
  go_ret
  exact ⟨rfl, rfl⟩

theorem dwaits_any {g : Nat} {S : List Nat} {D : DevS} {w : World} (hd : Dev w g S D) (i : Int) :
    Calls Try.prog 16 #[ptr g, .int .i64 i] w fun e w' => e = .returned (.int .i64 (D.waitsN i)) ∧ w = w' := by
  have hd0 := Lib.hid hd
  obtain ⟨l, m, nn, B, C, h⟩ := hd
  obtain ⟨c0, c1, c2, c3, c4, c5⟩ := h.cells.six
  cases hin : D.isIn i with
  | false =>
    have HL : Hid (D.waitsN i = 0) := show _ = _ by unfold DevS.waitsN; rw [hin]; rfl
    clear h
    go_enter Try.func16, Try.ntmps16
    go_wp2_with (go_at_call 29; refine (dis_any hd0.out i).mono ?_; rintro e w2 ⟨rfl, rfl⟩; rw [hin])
    go_ret
    exact ⟨by rw [HL.out]; rfl, rfl⟩
  | true =>
    obtain ⟨i0, i1⟩ := DevS.isIn_iff.1 hin
    obtain ⟨k, rfl⟩ : ∃ k : Nat, i = (k : Int) := ⟨i.toNat, by omega⟩
    have HL : Hid (D.waitsN (k : Int) = (D.waits k).length) := show _ = _ by unfold DevS.waitsN; rw [hin, if_pos rfl, Int.toNat_natCast]
    obtain ⟨A, c, hrun, hr1, hr2⟩ := look_run h k (by have := h.ok.most; omega)
    clear h i1 i0 hr1 hr2
    go_enter Try.func16, Try.ntmps16
    go_wp2_with (go_at_call 29; refine (dis_any hd0.out _).mono ?_; rintro e w2 ⟨rfl, rfl⟩; rw [hin])
    go_ret
    exact ⟨by rw [HL.out]; rfl, rfl⟩
theorem dwaits_nil (i : Int) (w : World) : Calls Try.prog 16 #[.pointer none, .int .i64 i] w fun e w' => e = .returned (.int .i64 0) ∧ w = w' := by
  go_enter Try.func16, Try.ntmps16
  go_wp2_with (go_at_call 29; refine (dis_nil i _).mono ?_; rintro e w2 ⟨rfl, rfl⟩)
  go_ret
  exact ⟨rfl, rfl⟩
end Go.Proofs.Ytchldjjfaiikbaa
