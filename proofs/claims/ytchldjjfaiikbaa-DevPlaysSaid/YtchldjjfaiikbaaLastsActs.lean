/- What an act does to what may last. Plain. -/
import Derived.Test.YtchldjjfaiikbaaDevActs
import Derived.Test.YtchldjjfaiikbaaPlainLasts
namespace Go.Proofs.Ytchldjjfaiikbaa
open Go.PlainAid
set_option linter.unusedVariables false

theorem stepped_steps (D : DevS) : D.stepped.steps ≤ D.steps + 1 := by unfold DevS.stepped; split <;> (try simp only) <;> omega
theorem write_len (D : DevS) (i : Int) (s : ByteArray) : (D.write i s).1.sec = D.sec ∧ (D.write i s).1.steps ≤ D.steps + 1 := by
  have h := stepped_steps D
  unfold DevS.write
  split
  · split
    · exact ⟨DevS.stepped_sec D, h⟩
    · exact ⟨DevS.stepped_sec D, h⟩
  · exact ⟨rfl, by simp only; omega⟩
theorem sync_len (D : DevS) : D.sync.1.sec.length = D.sec.length ∧ D.sync.1.steps ≤ D.steps + 1 := by
  have h := stepped_steps D
  unfold DevS.sync
  split
  · exact ⟨by simp [DevS.synced, DevS.stepped_sec], h⟩
  · exact ⟨by rw [DevS.stepped_sec], h⟩
theorem on_len (x : ActV) (D : DevS) : (x.on D).1.sec.length = D.sec.length ∧ (x.on D).1.steps ≤ D.steps + 1 := by
  unfold ActV.on
  split
  · exact ⟨by rw [(write_len D _ _).1], (write_len D _ _).2⟩
  split
  · exact sync_len D
  split
  · unfold DevS.setFuse; split <;> exact ⟨rfl, by simp only; omega⟩
  split
  · unfold DevS.cut; split <;> exact ⟨rfl, by simp only; omega⟩
  split
  · unfold DevS.start; split <;> exact ⟨by simp, by simp only; omega⟩
  · exact ⟨rfl, by simp only; omega⟩

/-- A write that is done, at this sector. -/
theorem may_write {D : DevS} {x : ActV} {i : Int} {may : List ByteArray} (hk : x.kind = 1) (hi : x.i = i) (he : (x.on D).2 = 0) (h : May D i.toNat may) : May (x.on D).1 i.toNat (may ++ [x.textOf]) := by
  have e : x.on D = D.write x.i x.textOf := by unfold ActV.on; rw [if_pos hk]
  rw [e] at he ⊢
  unfold DevS.write at he ⊢
  split at he
  · rename_i h1
    split at he
    · rename_i h2
      rw [if_pos h1, if_pos h2]
      rw [hi] at *
      refine h.written (D' := { D.stepped with row := D.row ++ [(i.toNat, x.textOf)], writes := D.writes + 1 }) (DevS.stepped_sec D) _ rfl
    · simp at he
  · simp at he
/-- .. at another one, or not done. -/
theorem may_unwritten {D : DevS} {x : ActV} {i : Int} {may : List ByteArray} (hk : x.kind = 1) (hi : ¬ (x.i = i ∧ (x.on D).2 = 0)) (h0 : 0 ≤ i) (h : May D i.toNat may) : May (x.on D).1 i.toNat may := by
  have e : x.on D = D.write x.i x.textOf := by unfold ActV.on; rw [if_pos hk]
  rw [e] at hi ⊢
  unfold DevS.write at hi ⊢
  split
  · rename_i h1
    split
    · rename_i h2
      rw [if_pos h1, if_pos h2] at hi
      have h3 : x.i ≠ i := fun hh => hi ⟨hh, rfl⟩
      have h4 : 0 ≤ x.i := (DevS.isIn_iff.1 (by simp only [Bool.and_eq_true] at h1; exact h1.1)).1
      exact h.other (DevS.stepped_sec D) _ (j := x.i.toNat) (by omega) rfl
    · exact h.same (DevS.stepped_sec D) (DevS.stepped_row D)
  · exact h
theorem stepped_latest (D : DevS) (i : Nat) : D.stepped.latest i = D.latest i := by
  unfold DevS.latest DevS.waits
  rw [DevS.stepped_sec, DevS.stepped_row]
/-- A sync that is done: the last one of what may be is left. -/
theorem may_sync {D : DevS} {x : ActV} {i : Nat} {may : List ByteArray} (hk : x.kind = 2) (he : (x.on D).2 = 0) (hi : i < D.sec.length) (h : May D i may) : May (x.on D).1 i (may.drop (may.length - 1)) := by
  have e : x.on D = D.sync := by unfold ActV.on; rw [if_neg (by omega), if_pos hk]
  have hl : may.drop (may.length - 1) = [D.latest i] := by
    obtain ⟨ys, hy⟩ := List.getLast?_eq_some_iff.1 h.last
    rw [hy]
    simp
  rw [e] at he ⊢
  rw [hl]
  unfold DevS.sync at he ⊢
  split at he
  · rename_i h1
    rw [if_pos h1]
    have h2 := may_synced (D := D.stepped) (i := i) (by rw [DevS.stepped_sec]; exact hi)
    rwa [stepped_latest] at h2
  · simp at he
theorem may_unsynced {D : DevS} {x : ActV} {i : Nat} {may : List ByteArray} (hk : x.kind = 2) (he : (x.on D).2 ≠ 0) (h : May D i may) : May (x.on D).1 i may := by
  have e : x.on D = D.sync := by unfold ActV.on; rw [if_neg (by omega), if_pos hk]
  rw [e] at he ⊢
  unfold DevS.sync at he ⊢
  split
  · rename_i h1
    rw [if_pos h1] at he
    exact absurd rfl he
  · exact h.same (DevS.stepped_sec D) (DevS.stepped_row D)
/-- A start that is done: what lasts is all. -/
theorem may_start {D : DevS} {x : ActV} {i : Int} (hk : x.kind = 5) (he : (x.on D).2 = 0) (h0 : 0 ≤ i) (hi : i < (D.sec.length : Int)) : D.off = true ∧ May (x.on D).1 i.toNat [(x.on D).1.lasts i] := by
  have e : x.on D = D.start x.picks := by unfold ActV.on; rw [if_neg (by omega), if_neg (by omega), if_neg (by omega), if_neg (by omega), if_pos hk]
  have hl := (on_len x D).1
  have hin : (x.on D).1.isIn i = true := DevS.isIn_iff.2 ⟨h0, by rw [hl]; exact hi⟩
  have hla : (x.on D).1.lasts i = (x.on D).1.sec.getD i.toNat ByteArray.empty := by unfold DevS.lasts; rw [if_pos hin]
  rw [hla]
  rw [e] at he ⊢
  unfold DevS.start at he ⊢
  split at he
  · rename_i h1
    rw [if_pos h1]
    exact ⟨h1, may_still rfl⟩
  · simp at he
theorem start_off {D : DevS} {x : ActV} (hk : x.kind = 5) (he : (x.on D).2 = 0) : D.off = true := by
  have e : x.on D = D.start x.picks := by unfold ActV.on; rw [if_neg (by omega), if_neg (by omega), if_neg (by omega), if_neg (by omega), if_pos hk]
  rw [e] at he
  unfold DevS.start at he
  split at he
  · assumption
  · simp at he
theorem may_unstarted {D : DevS} {x : ActV} {i : Nat} {may : List ByteArray} (hk : x.kind = 5) (he : (x.on D).2 ≠ 0) (h : May D i may) : May (x.on D).1 i may := by
  have e : x.on D = D.start x.picks := by unfold ActV.on; rw [if_neg (by omega), if_neg (by omega), if_neg (by omega), if_neg (by omega), if_pos hk]
  rw [e] at he ⊢
  unfold DevS.start at he ⊢
  split
  · rename_i h1
    rw [if_pos h1] at he
    exact absurd rfl he
  · exact h
theorem may_else {D : DevS} {x : ActV} {i : Nat} {may : List ByteArray} (h1 : x.kind ≠ 1) (h2 : x.kind ≠ 2) (h5 : x.kind ≠ 5) (h : May D i may) : May (x.on D).1 i may := by
  unfold ActV.on
  rw [if_neg h1, if_neg h2]
  split
  · unfold DevS.setFuse
    split
    · exact h
    · exact h.same rfl rfl
  split
  · unfold DevS.cut
    split
    · exact h
    · exact h.same rfl rfl
  exact h
/-- Behind a cut and a start the sector is one of what may be. -/
theorem may_end {D : DevS} {i : Int} {may : List ByteArray} (picks : List Int) (h0 : 0 ≤ i) (hi : i < (D.sec.length : Int)) (h : May D i.toNat may) :
    ∃ E, D.cut.1.start picks = (E, 0) ∧ E.sec.length = D.sec.length ∧ E.steps = D.steps ∧ E.waitsN i = 0 ∧ E.lasts i ∈ may := by
  have hk : ∀ C : DevS, C.sec = D.sec → C.row = D.row → C.off = true → ∃ E, C.start picks = (E, 0) ∧ E.sec.length = D.sec.length ∧ E.steps = C.steps ∧ E.waitsN i = 0 ∧ E.lasts i ∈ may := by
    intro C hs hr ho
    have hC := h.same hs hr
    refine ⟨{ C with sec := (List.range C.sec.length).map (C.kept picks), row := [], off := false }, by unfold DevS.start; rw [if_pos ho], by simp [hs], rfl, ?_, ?_⟩
    · unfold DevS.waitsN
      split <;> rfl
    · have hin : ({ C with sec := (List.range C.sec.length).map (C.kept picks), row := [], off := false } : DevS).isIn i = true := DevS.isIn_iff.2 ⟨h0, by simp [hs]; exact hi⟩
      unfold DevS.lasts
      rw [if_pos hin]
      have hlt : i.toNat < C.sec.length := by rw [hs]; omega
      simp only [List.getD_eq_getElem?_getD, List.getElem?_map, List.getElem?_range hlt, Option.map_some, Option.getD_some]
      exact hC.kept picks
  unfold DevS.cut
  cases ho : D.off with
  | true => simp only [if_true]; exact hk D rfl rfl ho
  | false => simp only [Bool.false_eq_true, if_false]; exact hk _ rfl rfl rfl
end Go.Proofs.Ytchldjjfaiikbaa
