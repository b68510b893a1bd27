/- What may last of a sector: the law of DevLasts over the plain device. Plain. -/
import Derived.Test.YtchldjjfaiikbaaPlainStart
namespace Go.Proofs.Ytchldjjfaiikbaa
open Go.PlainAid

/-- What sector i may be behind a loss of power. -/
structure May (D : DevS) (i : Nat) (may : List ByteArray) : Prop where
  last : may.getLast? = some (D.latest i)
  sec : D.sec.getD i ByteArray.empty ∈ may
  waits : ∀ s ∈ D.waits i, s ∈ may

theorem May.kept {D : DevS} {i : Nat} {may : List ByteArray} (h : May D i may) (picks : List Int) : D.kept picks i ∈ may := by
  unfold DevS.kept
  split
  · exact h.sec
  · rename_i hne
    have hlt : DevS.pick picks (D.turn i) % ((D.waits i).length + 1) < (D.waits i).length + 1 := Nat.mod_lt _ (by omega)
    have hl : DevS.pick picks (D.turn i) % ((D.waits i).length + 1) - 1 < (D.waits i).length := by omega
    rw [List.getD_eq_getElem?_getD, List.getElem?_eq_getElem hl]
    exact h.waits _ (List.getElem_mem hl)
theorem May.same {D D' : DevS} {i : Nat} {may : List ByteArray} (h : May D i may) (hs : D'.sec = D.sec) (hr : D'.row = D.row) : May D' i may := by
  have hw : D'.waits i = D.waits i := by unfold DevS.waits; rw [hr]
  have hl : D'.latest i = D.latest i := by unfold DevS.latest; rw [hw, hs]
  exact ⟨by rw [hl]; exact h.last, by rw [hs]; exact h.sec, by rw [hw]; exact h.waits⟩
theorem May.written {D D' : DevS} {i : Nat} {may : List ByteArray} (h : May D i may) (hs : D'.sec = D.sec) (s : ByteArray) (hr : D'.row = D.row ++ [(i, s)]) : May D' i (may ++ [s]) := by
  have hw : D'.waits i = D.waits i ++ [s] := by unfold DevS.waits; rw [hr, waitsOf_snoc, if_pos rfl]
  have hl : D'.latest i = s := by unfold DevS.latest; rw [hw]; simp
  refine ⟨by rw [hl]; simp, by rw [hs]; exact List.mem_append.2 (.inl h.sec), fun u hu => ?_⟩
  rw [hw] at hu
  rcases List.mem_append.1 hu with hu | hu
  · exact List.mem_append.2 (.inl (h.waits u hu))
  · exact List.mem_append.2 (.inr hu)
theorem May.other {D D' : DevS} {i j : Nat} {may : List ByteArray} (h : May D i may) (hs : D'.sec = D.sec) (s : ByteArray) (hj : j ≠ i) (hr : D'.row = D.row ++ [(j, s)]) : May D' i may := by
  have hw : D'.waits i = D.waits i := by unfold DevS.waits; rw [hr, waitsOf_snoc, if_neg hj]
  have hl : D'.latest i = D.latest i := by unfold DevS.latest; rw [hw, hs]
  exact ⟨by rw [hl]; exact h.last, by rw [hs]; exact h.sec, by rw [hw]; exact h.waits⟩
/-- A device of which nothing waits may last as it is, alone. -/
theorem may_still {D : DevS} {i : Nat} (hr : D.row = []) : May D i [D.sec.getD i ByteArray.empty] := by
  have hw : D.waits i = [] := by unfold DevS.waits; rw [hr]; rfl
  have hl : D.latest i = D.sec.getD i ByteArray.empty := by unfold DevS.latest; rw [hw]; rfl
  exact ⟨by rw [hl]; rfl, by simp, by rw [hw]; simp⟩
theorem may_synced {D : DevS} {i : Nat} (hi : i < D.sec.length) : May D.synced i [D.latest i] := by
  have h1 := may_still (D := D.synced) (i := i) rfl
  have e : D.synced.sec.getD i ByteArray.empty = D.latest i := by simp [DevS.synced, List.getD_eq_getElem?_getD, hi]
  rw [e] at h1
  exact h1
end Go.Proofs.Ytchldjjfaiikbaa
