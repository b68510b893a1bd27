/- The device by the chapter: sectors, what waits in order. Plain. -/
import Derived.PlainAid
namespace Go.Proofs.YtkkgiajjdcpicaaGreatDoor
open Go.PlainAid

/-- A device: what lasts, what waits (sector and bytes, in order), whether it is off, the fuse, steps, writes. -/
structure DevS where
  sec : List ByteArray
  row : List (Nat × ByteArray)
  off : Bool
  fuse : Int
  steps : Int
  writes : Int

/-- What waits of one sector. -/
def waitsOf (row : List (Nat × ByteArray)) (i : Nat) : List ByteArray := (row.filter fun x => x.1 == i).map (·.2)

namespace DevS
def waits (d : DevS) (i : Nat) : List ByteArray := waitsOf d.row i
def isIn (d : DevS) (i : Int) : Bool := decide (0 ≤ i) && decide (i < (d.sec.length : Int))
def stepOk (d : DevS) : Bool := !d.off && !(d.fuse == 1)
def stepped (d : DevS) : DevS :=
  if d.off then d else { d with off := d.fuse == 1, fuse := max 0 (d.fuse - 1), steps := d.steps + 1 }
def write (d : DevS) (i : Int) (s : ByteArray) : DevS × Int :=
  if d.isIn i && s.size == 128 then
    if d.stepOk then ({ d.stepped with row := d.row ++ [(i.toNat, s)], writes := d.writes + 1 }, 0) else (d.stepped, 6)
  else (d, 1)
def latest (d : DevS) (i : Nat) : ByteArray := (d.waits i).getLastD (d.sec.getD i ByteArray.empty)
def read (d : DevS) (i : Int) : ByteArray × Int :=
  if d.isIn i then if d.off then (ByteArray.empty, 6) else (d.latest i.toNat, 0) else (ByteArray.empty, 1)
def synced (d : DevS) : DevS := { d with sec := (List.range d.sec.length).map d.latest, row := [] }
def sync (d : DevS) : DevS × Int := if d.stepOk then (d.stepped.synced, 0) else (d.stepped, 6)
def cut (d : DevS) : DevS × Int := if d.off then (d, 6) else ({ d with off := true, fuse := 0 }, 0)
def setFuse (d : DevS) (n : Int) : DevS × Int := if d.off then (d, 6) else ({ d with fuse := max 0 n }, 0)
def busy (d : DevS) (i : Nat) : Bool := !(d.waits i).isEmpty
/-- How many sectors ahead of i have writes that wait. -/
def turn (d : DevS) (i : Nat) : Nat := ((List.range i).filter d.busy).length
def pick (picks : List Int) (k : Nat) : Nat := if picks = [] then 0 else (picks.getD (k % picks.length) 0).toNat
def kept (d : DevS) (picks : List Int) (i : Nat) : ByteArray :=
  if pick picks (d.turn i) % ((d.waits i).length + 1) = 0 then d.sec.getD i ByteArray.empty
  else (d.waits i).getD (pick picks (d.turn i) % ((d.waits i).length + 1) - 1) ByteArray.empty
def start (d : DevS) (picks : List Int) : DevS × Int :=
  if d.off then ({ d with sec := (List.range d.sec.length).map (d.kept picks), row := [], off := false }, 0) else (d, 10)
def lasts (d : DevS) (i : Int) : ByteArray := if d.isIn i then d.sec.getD i.toNat ByteArray.empty else ByteArray.empty
def waitsN (d : DevS) (i : Int) : Int := if d.isIn i then (d.waits i.toNat).length else 0
def noughts : ByteArray := ⟨(List.replicate 128 (0 : UInt8)).toArray⟩
def new (n : Nat) : DevS := ⟨List.replicate n noughts, [], false, 0, 0, 0⟩

/-- What holds of every device that was made and used. -/
structure Ok (d : DevS) : Prop where
  some : 0 < d.sec.length
  most : d.sec.length ≤ 2048
  secs : ∀ s ∈ d.sec, s.size = 128
  rows : ∀ x ∈ d.row, x.1 < d.sec.length ∧ x.2.size = 128
  fuse0 : 0 ≤ d.fuse
  fuse1 : d.fuse ≤ 9223372036854775807
  rowW : (d.row.length : Int) ≤ d.writes
  writesS : d.writes ≤ d.steps
end DevS

theorem waitsOf_snoc (row : List (Nat × ByteArray)) (i j : Nat) (s : ByteArray) : waitsOf (row ++ [(i, s)]) j = if i = j then waitsOf row j ++ [s] else waitsOf row j := by
  unfold waitsOf
  rw [List.filter_append]
  by_cases h : i = j
  · rw [if_pos h]; simp [h]
  · rw [if_neg h]; simp [h]
theorem waitsOf_length_le (row : List (Nat × ByteArray)) (i : Nat) : (waitsOf row i).length ≤ row.length := by
  unfold waitsOf
  rw [List.length_map]
  exact List.length_filter_le _ _
theorem waitsOf_mem {row : List (Nat × ByteArray)} {i : Nat} {s : ByteArray} (h : s ∈ waitsOf row i) : (i, s) ∈ row := by
  unfold waitsOf at h
  obtain ⟨x, hx, rfl⟩ := List.mem_map.1 h
  obtain ⟨h1, h2⟩ := List.mem_filter.1 hx
  have : x.1 = i := by simpa using h2
  obtain ⟨a, b⟩ := x
  simp only at this
  subst this
  exact h1

namespace DevS
theorem isIn_iff {d : DevS} {i : Int} : d.isIn i = true ↔ 0 ≤ i ∧ i < (d.sec.length : Int) := by unfold isIn; simp
theorem waits_nil_of_ge {d : DevS} (h : d.Ok) {i : Nat} (hi : d.sec.length ≤ i) : d.waits i = [] := by
  cases hw : d.waits i with
  | nil => rfl
  | cons s l =>
    have := waitsOf_mem (row := d.row) (i := i) (s := s) (by unfold waits at hw; rw [hw]; exact List.mem_cons_self)
    have := (h.rows _ this).1
    simp only at this
    omega
theorem stepped_sec (d : DevS) : d.stepped.sec = d.sec := by unfold stepped; split <;> rfl
theorem stepped_row (d : DevS) : d.stepped.row = d.row := by unfold stepped; split <;> rfl
theorem stepped_writes (d : DevS) : d.stepped.writes = d.writes := by unfold stepped; split <;> rfl
theorem Ok.stepped {d : DevS} (h : d.Ok) : d.stepped.Ok := by
  unfold DevS.stepped
  split
  · exact h
  · exact ⟨h.some, h.most, h.secs, h.rows, Int.le_max_left _ _, by have := h.fuse1; show max 0 (d.fuse - 1) ≤ _; omega, h.rowW, by have := h.writesS; show d.writes ≤ d.steps + 1; omega⟩
theorem latest_mem {d : DevS} {i : Nat} (h : i < d.sec.length) : d.latest i ∈ d.waits i ∨ (d.waits i = [] ∧ d.latest i = d.sec[i]) := by
  unfold latest
  cases hw : d.waits i with
  | nil => exact .inr ⟨rfl, by simp [h]⟩
  | cons s l => exact .inl (by rw [List.getLastD_eq_getLast?, List.getLast?_eq_some_getLast (by simp), Option.getD_some]; exact List.getLast_mem _)
theorem latest_size {d : DevS} (h : d.Ok) {i : Nat} (hi : i < d.sec.length) : (d.latest i).size = 128 := by
  rcases latest_mem hi with hm | ⟨_, he⟩
  · exact (h.rows _ (waitsOf_mem hm)).2
  · rw [he]; exact h.secs _ (List.getElem_mem hi)
theorem Ok.synced {d : DevS} (h : d.Ok) : d.synced.Ok := by
  refine ⟨by simpa [DevS.synced] using h.some, by simpa [DevS.synced] using h.most, ?_, by simp [DevS.synced], h.fuse0, h.fuse1, ?_, h.writesS⟩
  · intro s hs
    simp only [DevS.synced, List.mem_map, List.mem_range] at hs
    obtain ⟨i, hi, rfl⟩ := hs
    exact latest_size h hi
  · have := h.rowW; simp only [DevS.synced, List.length_nil]; omega
theorem kept_size {d : DevS} (h : d.Ok) (picks : List Int) {i : Nat} (hi : i < d.sec.length) : (d.kept picks i).size = 128 := by
  unfold kept
  split
  · rw [List.getD_eq_getElem?_getD, List.getElem?_eq_getElem hi]; exact h.secs _ (List.getElem_mem hi)
  · rename_i hne
    have hlt : pick picks (d.turn i) % ((d.waits i).length + 1) - 1 < (d.waits i).length := by
      have := Nat.mod_lt (pick picks (d.turn i)) (show 0 < (d.waits i).length + 1 by omega)
      omega
    rw [List.getD_eq_getElem?_getD, List.getElem?_eq_getElem hlt]
    exact (h.rows _ (waitsOf_mem (List.getElem_mem hlt))).2
theorem Ok.write {d : DevS} (h : d.Ok) (i : Int) (s : ByteArray) : (d.write i s).1.Ok := by
  unfold DevS.write
  split
  · rename_i hc
    obtain ⟨h1, h2⟩ : d.isIn i = true ∧ s.size = 128 := by simpa using hc
    rw [isIn_iff] at h1
    split
    · rename_i hk
      have hs := h.stepped
      refine ⟨hs.some, hs.most, hs.secs, ?_, hs.fuse0, hs.fuse1, ?_, ?_⟩
      · intro x hx
        simp only [stepped_sec]
        rcases List.mem_append.1 hx with hx | hx
        · exact h.rows x hx
        · obtain rfl : x = (i.toNat, s) := by simpa using hx
          exact ⟨by simp only; omega, h2⟩
      · have := h.rowW; simp only [List.length_append, List.length_singleton]; omega
      · have := h.writesS
        have hoff : d.off = false := by unfold stepOk at hk; simp at hk; exact hk.1
        simp only [DevS.stepped, hoff]
        show d.writes + 1 ≤ d.steps + 1
        omega
    · exact h.stepped
  · exact h
theorem Ok.sync {d : DevS} (h : d.Ok) : d.sync.1.Ok := by
  unfold DevS.sync
  split
  · exact h.stepped.synced
  · exact h.stepped
theorem Ok.cut {d : DevS} (h : d.Ok) : d.cut.1.Ok := by
  unfold DevS.cut
  split
  · exact h
  · exact ⟨h.some, h.most, h.secs, h.rows, Int.le_refl _, by show (0 : Int) ≤ _; omega, h.rowW, h.writesS⟩
theorem Ok.setFuse {d : DevS} (h : d.Ok) {n : Int} (hn : n ≤ 9223372036854775807) : (d.setFuse n).1.Ok := by
  unfold DevS.setFuse
  split
  · exact h
  · exact ⟨h.some, h.most, h.secs, h.rows, Int.le_max_left _ _, by show max 0 n ≤ _; omega, h.rowW, h.writesS⟩
theorem Ok.start {d : DevS} (h : d.Ok) (picks : List Int) : (d.start picks).1.Ok := by
  unfold DevS.start
  split
  · refine ⟨by simpa using h.some, by simpa using h.most, ?_, by simp, h.fuse0, h.fuse1, ?_, h.writesS⟩
    · intro s hs
      simp only [List.mem_map, List.mem_range] at hs
      obtain ⟨i, hi, rfl⟩ := hs
      exact kept_size h picks hi
    · have := h.rowW; simp only [List.length_nil]; omega
  · exact h
theorem Ok.steps0 {d : DevS} (h : d.Ok) : 0 ≤ d.steps := by have := h.rowW; have := h.writesS; omega
theorem Ok.writes0 {d : DevS} (h : d.Ok) : 0 ≤ d.writes := by have := h.rowW; omega
theorem noughts_size : noughts.size = 128 := by simp [noughts, ByteArray.size]
theorem Ok.new {n : Nat} (h0 : 0 < n) (h1 : n ≤ 2048) : (new n).Ok := by
  refine ⟨by simpa [DevS.new] using h0, by simpa [DevS.new] using h1, ?_, by simp [DevS.new], Int.le_refl _, by show (0 : Int) ≤ _; omega, Int.le_refl _, Int.le_refl _⟩
  intro s hs
  obtain ⟨_, rfl⟩ := List.mem_replicate.1 (show s ∈ List.replicate n noughts from hs)
  exact noughts_size
end DevS
end Go.Proofs.YtkkgiajjdcpicaaGreatDoor
