/- What a start leaves, sector by sector, in the order of the keys that wait. Plain. -/
import Derived.Test.YtchldjjfaiikbaaPlainDev
namespace Go.Proofs.Ytchldjjfaiikbaa
open Go.PlainAid

/-- The sectors with writes that wait, rising. -/
def busyL (D : DevS) : List Nat := (List.range D.sec.length).filter D.busy
theorem busy_turn {D : DevS} {i : Nat} (hi : i < D.sec.length) (hb : D.busy i = true) : (busyL D)[D.turn i]? = some i := by
  unfold busyL DevS.turn
  have e : List.range D.sec.length = List.range i ++ (i :: List.range' (i + 1) (D.sec.length - i - 1)) := by
    have h1 := List.range'_append_1 (s := 0) (m := i) (n := D.sec.length - i)
    have h2 : i + (D.sec.length - i) = D.sec.length := by omega
    rw [h2, Nat.zero_add] at h1
    rw [List.range_eq_range', ← h1, ← List.range_eq_range']
    congr 1
    obtain ⟨k, hk⟩ : ∃ k, D.sec.length - i = k + 1 := ⟨D.sec.length - i - 1, by omega⟩
    rw [hk, List.range'_succ]
    rfl
  rw [e, List.filter_append, List.filter_cons, if_pos hb, List.getElem?_append_right (Nat.le_refl _), Nat.sub_self]
  rfl
theorem busyL_mem {D : DevS} {i : Nat} : i ∈ busyL D ↔ i < D.sec.length ∧ D.busy i = true := by
  unfold busyL
  rw [List.mem_filter, List.mem_range]
theorem busyL_rising (D : DevS) : (busyL D).Pairwise (· < ·) := (List.pairwise_lt_range).filter _
theorem busyL_at {D : DevS} {j i : Nat} (h : (busyL D)[j]? = some i) : i < D.sec.length ∧ D.busy i = true ∧ D.turn i = j := by
  obtain ⟨h1, h2⟩ := busyL_mem.1 (List.mem_of_getElem? h)
  refine ⟨h1, h2, ?_⟩
  have h3 := busy_turn h1 h2
  obtain ⟨l1, e1⟩ := List.getElem?_eq_some_iff.1 h
  obtain ⟨l2, e2⟩ := List.getElem?_eq_some_iff.1 h3
  have hr := busyL_rising D
  rcases Nat.lt_trichotomy (D.turn i) j with hlt | heq | hgt
  · have := List.pairwise_iff_getElem.1 hr _ _ l2 l1 hlt
    omega
  · exact heq
  · have := List.pairwise_iff_getElem.1 hr _ _ l1 l2 hgt
    omega
theorem turn_lt {D : DevS} {i : Nat} (hi : i < D.sec.length) (hb : D.busy i = true) : D.turn i < (busyL D).length := by
  obtain ⟨h, _⟩ := List.getElem?_eq_some_iff.1 (busy_turn hi hb)
  exact h
theorem kept_idle {D : DevS} {picks : List Int} {i : Nat} (h : D.busy i = false) : D.kept picks i = D.sec.getD i ByteArray.empty := by
  have hw : D.waits i = [] := by
    unfold DevS.busy at h
    cases hw : D.waits i with
    | nil => rfl
    | cons a b => rw [hw] at h; simp at h
  unfold DevS.kept
  rw [hw, if_pos (by simp [Nat.mod_one])]

/-- The sectors behind the first j keys. -/
def startRow (D : DevS) (picks : List Int) (j : Nat) : List ByteArray := (List.range D.sec.length).map fun i => if D.turn i < j then D.kept picks i else D.sec.getD i ByteArray.empty
theorem startRow_len (D : DevS) (picks : List Int) (j : Nat) : (startRow D picks j).length = D.sec.length := by simp [startRow]
theorem startRow_zero (D : DevS) (picks : List Int) : startRow D picks 0 = D.sec := by
  refine List.ext_getElem (by simp [startRow]) (fun i h1 h2 => ?_)
  simp only [startRow, List.getElem_map, List.getElem_range]
  rw [if_neg (by omega), List.getD_eq_getElem?_getD, List.getElem?_eq_getElem h2]
  rfl
theorem startRow_step {D : DevS} {picks : List Int} {j i : Nat} (h : (busyL D)[j]? = some i) : startRow D picks (j + 1) = (startRow D picks j).set i (D.kept picks i) := by
  obtain ⟨hi, hb, ht⟩ := busyL_at h
  refine List.ext_getElem (by simp [startRow]) (fun x h1 h2 => ?_)
  rw [List.getElem_set]
  simp only [startRow, List.getElem_map, List.getElem_range]
  by_cases hix : i = x
  · subst hix
    rw [if_pos rfl, if_pos (by omega)]
  · rw [if_neg hix]
    by_cases hlt : D.turn x < j
    · rw [if_pos hlt, if_pos (by omega)]
    · rw [if_neg hlt]
      by_cases he : D.turn x < j + 1
      · rw [if_pos he]
        have hx : x < D.sec.length := by simpa [startRow] using h1
        refine kept_idle ?_
        cases hbx : D.busy x with
        | false => rfl
        | true =>
          have h3 := busy_turn hx hbx
          have : D.turn x = j := by omega
          rw [this, h] at h3
          injection h3 with h3
          exact absurd h3 hix
      · rw [if_neg he]
theorem startRow_same {D : DevS} {picks : List Int} {j i : Nat} (h : (busyL D)[j]? = some i) (hk : D.kept picks i = D.sec.getD i ByteArray.empty) : startRow D picks (j + 1) = startRow D picks j := by
  obtain ⟨hi, hb, ht⟩ := busyL_at h
  rw [startRow_step h]
  refine List.ext_getElem (by simp) (fun x h1 h2 => ?_)
  rw [List.getElem_set]
  by_cases hix : i = x
  · subst hix
    rw [if_pos rfl, hk]
    simp only [startRow, List.getElem_map, List.getElem_range]
    rw [if_neg (by omega)]
  · rw [if_neg hix]
theorem startRow_end (D : DevS) (picks : List Int) : startRow D picks (busyL D).length = (List.range D.sec.length).map (D.kept picks) := by
  refine List.ext_getElem (by simp [startRow]) (fun x h1 h2 => ?_)
  simp only [startRow, List.getElem_map, List.getElem_range]
  have hx : x < D.sec.length := by simpa [startRow] using h1
  cases hbx : D.busy x with
  | true => rw [if_pos (turn_lt hx hbx)]
  | false =>
    split
    · rfl
    · rw [kept_idle hbx]
end Go.Proofs.Ytchldjjfaiikbaa
