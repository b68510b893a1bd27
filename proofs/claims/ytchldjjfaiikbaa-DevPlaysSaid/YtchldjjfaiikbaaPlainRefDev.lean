/- The reference's device, step by step: what a pass over the row has seen. Plain. -/
import Derived.Test.YtchldjjfaiikbaaPlainStart
namespace Go.Proofs.Ytchldjjfaiikbaa
open Go.PlainAid

theorem take_one {α : Type} {l : List α} {k : Nat} {x : α} (h : l[k]? = some x) : l.take (k + 1) = l.take k ++ [x] := by
  obtain ⟨hk, rfl⟩ := List.getElem?_eq_some_iff.1 h
  rw [List.take_succ_eq_append_getElem hk]
theorem waitsOf_step {row : List (Nat × ByteArray)} {k : Nat} {x : Nat × ByteArray} (h : row[k]? = some x) (i : Nat) : waitsOf (row.take (k + 1)) i = if x.1 = i then waitsOf (row.take k) i ++ [x.2] else waitsOf (row.take k) i := by
  rw [take_one h]
  exact waitsOf_snoc _ _ _ _
/-- The last of a sector among some writes. -/
def lastOf (row : List (Nat × ByteArray)) (i : Nat) (s0 : ByteArray) : ByteArray := (waitsOf row i).getLastD s0
theorem lastOf_zero (row : List (Nat × ByteArray)) (i : Nat) (s0 : ByteArray) : lastOf (row.take 0) i s0 = s0 := rfl
theorem lastOf_yes {row : List (Nat × ByteArray)} {k : Nat} {x : Nat × ByteArray} (h : row[k]? = some x) {i : Nat} (hx : x.1 = i) (s0 : ByteArray) : lastOf (row.take (k + 1)) i s0 = x.2 := by
  unfold lastOf
  rw [waitsOf_step h, if_pos hx]
  simp
theorem lastOf_no {row : List (Nat × ByteArray)} {k : Nat} {x : Nat × ByteArray} (h : row[k]? = some x) {i : Nat} (hx : x.1 ≠ i) (s0 : ByteArray) : lastOf (row.take (k + 1)) i s0 = lastOf (row.take k) i s0 := by
  unfold lastOf
  rw [waitsOf_step h, if_neg hx]
theorem lastOf_all (D : DevS) (i : Nat) : lastOf (D.row.take D.row.length) i (D.sec.getD i ByteArray.empty) = D.latest i := by
  rw [List.take_length]
  rfl
/-- How many. -/
def countOf (row : List (Nat × ByteArray)) (i : Nat) : Nat := (waitsOf row i).length
theorem countOf_yes {row : List (Nat × ByteArray)} {k : Nat} {x : Nat × ByteArray} (h : row[k]? = some x) {i : Nat} (hx : x.1 = i) : countOf (row.take (k + 1)) i = countOf (row.take k) i + 1 := by
  unfold countOf
  rw [waitsOf_step h, if_pos hx]
  simp
theorem countOf_no {row : List (Nat × ByteArray)} {k : Nat} {x : Nat × ByteArray} (h : row[k]? = some x) {i : Nat} (hx : x.1 ≠ i) : countOf (row.take (k + 1)) i = countOf (row.take k) i := by
  unfold countOf
  rw [waitsOf_step h, if_neg hx]
theorem countOf_le (row : List (Nat × ByteArray)) (i k : Nat) : countOf (row.take k) i ≤ k := by
  unfold countOf
  have h1 := waitsOf_length_le (row.take k) i
  have h2 := List.length_take_le k row
  omega

/-- The sectors behind the first k writes. -/
def rsyncRow (D : DevS) (k : Nat) : List ByteArray := (List.range D.sec.length).map fun i => lastOf (D.row.take k) i (D.sec.getD i ByteArray.empty)
theorem rsyncRow_len (D : DevS) (k : Nat) : (rsyncRow D k).length = D.sec.length := by simp [rsyncRow]
theorem rsyncRow_zero (D : DevS) : rsyncRow D 0 = D.sec := by
  refine List.ext_getElem (by simp [rsyncRow]) (fun i h1 h2 => ?_)
  simp only [rsyncRow, List.getElem_map, List.getElem_range, lastOf_zero]
  rw [List.getD_eq_getElem?_getD, List.getElem?_eq_getElem h2]
  rfl
theorem rsyncRow_step {D : DevS} {k : Nat} {x : Nat × ByteArray} (h : D.row[k]? = some x) : rsyncRow D (k + 1) = (rsyncRow D k).set x.1 x.2 := by
  refine List.ext_getElem (by simp [rsyncRow]) (fun i h1 h2 => ?_)
  rw [List.getElem_set]
  simp only [rsyncRow, List.getElem_map, List.getElem_range]
  by_cases hx : x.1 = i
  · rw [if_pos hx, lastOf_yes h hx]
  · rw [if_neg hx, lastOf_no h hx]
theorem rsyncRow_end (D : DevS) : rsyncRow D D.row.length = D.synced.sec := by
  unfold rsyncRow DevS.synced
  simp only [lastOf_all]

/-- A sector of which c writes were taken. -/
def takenOf (D : DevS) (i c : Nat) : ByteArray := if c = 0 then D.sec.getD i ByteArray.empty else (D.waits i).getD (c - 1) ByteArray.empty
theorem taken_kept (D : DevS) (picks : List Int) (i : Nat) : takenOf D i (DevS.pick picks (D.turn i) % ((D.waits i).length + 1)) = D.kept picks i := rfl
/-- The k-th write, if it is of sector i, is the one that comes next. -/
theorem waits_next {D : DevS} {k : Nat} {x : Nat × ByteArray} (h : D.row[k]? = some x) {i : Nat} (hx : x.1 = i) : (D.waits i).getD (countOf (D.row.take k) i) ByteArray.empty = x.2 := by
  have h1 : D.row = D.row.take (k + 1) ++ D.row.drop (k + 1) := (List.take_append_drop _ _).symm
  have h2 : D.waits i = waitsOf (D.row.take (k + 1)) i ++ waitsOf (D.row.drop (k + 1)) i := by
    unfold DevS.waits
    conv => lhs; rw [h1]
    unfold waitsOf
    rw [List.filter_append, List.map_append]
  rw [h2, waitsOf_step h, if_pos hx]
  unfold countOf
  simp
theorem turn_step (D : DevS) (i : Nat) : D.turn (i + 1) = D.turn i + if D.busy i then 1 else 0 := by
  unfold DevS.turn
  rw [List.range_succ, List.filter_append]
  cases h : D.busy i <;> simp [h]
theorem turn_le (D : DevS) (i : Nat) : D.turn i ≤ i := by
  unfold DevS.turn
  have := List.length_filter_le D.busy (List.range i)
  simpa using this
/-- The sectors while sector i is begun: those below are what they become, those from i on what they were. -/
def passRow (D : DevS) (picks : List Int) (i : Nat) (s : ByteArray) : List ByteArray := (List.range D.sec.length).map fun j => if j < i then D.kept picks j else if j = i then s else D.sec.getD j ByteArray.empty
theorem passRow_len (D : DevS) (picks : List Int) (i : Nat) (s : ByteArray) : (passRow D picks i s).length = D.sec.length := by simp [passRow]
theorem passRow_zero (D : DevS) (picks : List Int) : passRow D picks 0 (D.sec.getD 0 ByteArray.empty) = D.sec := by
  refine List.ext_getElem (by simp [passRow]) (fun i h1 h2 => ?_)
  simp only [passRow, List.getElem_map, List.getElem_range]
  rw [if_neg (by omega)]
  by_cases h : i = 0
  · subst h
    rw [if_pos rfl, List.getD_eq_getElem?_getD, List.getElem?_eq_getElem h2]
    rfl
  · rw [if_neg h, List.getD_eq_getElem?_getD, List.getElem?_eq_getElem h2]
    rfl
theorem passRow_set (D : DevS) (picks : List Int) (i : Nat) (s t : ByteArray) : (passRow D picks i s).set i t = passRow D picks i t := by
  refine List.ext_getElem (by simp [passRow]) (fun j h1 h2 => ?_)
  rw [List.getElem_set]
  simp only [passRow, List.getElem_map, List.getElem_range]
  by_cases h : i = j
  · subst h
    rw [if_pos rfl, if_neg (by omega), if_pos rfl]
  · rw [if_neg h]
    by_cases h2 : j < i
    · rw [if_pos h2, if_pos h2]
    · rw [if_neg h2, if_neg h2, if_neg (fun e => h e.symm), if_neg (fun e => h e.symm)]
theorem passRow_next (D : DevS) (picks : List Int) (i : Nat) : passRow D picks i (D.kept picks i) = passRow D picks (i + 1) (D.sec.getD (i + 1) ByteArray.empty) := by
  refine List.ext_getElem (by simp [passRow]) (fun j h1 h2 => ?_)
  simp only [passRow, List.getElem_map, List.getElem_range]
  by_cases h : j < i
  · rw [if_pos h, if_pos (by omega)]
  · rw [if_neg h]
    by_cases h2 : j = i
    · subst h2
      rw [if_pos rfl, if_pos (by omega)]
    · rw [if_neg h2, if_neg (by omega)]
      by_cases h3 : j = i + 1
      · rw [if_pos h3, h3]
      · rw [if_neg h3]
theorem passRow_end (D : DevS) (picks : List Int) (s : ByteArray) : passRow D picks D.sec.length s = (List.range D.sec.length).map (D.kept picks) := by
  refine List.ext_getElem (by simp [passRow]) (fun j h1 h2 => ?_)
  simp only [passRow, List.getElem_map, List.getElem_range]
  rw [if_pos (by simpa [passRow] using h1)]
end Go.Proofs.Ytchldjjfaiikbaa
