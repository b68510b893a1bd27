/- DevLasts: what holds of the play behind k acts. -/
import Derived.Test.YtchldjjfaiikbaaLastsState
namespace Go.Proofs.Ytchldjjfaiikbaa
open Go.RowKit
open Go.PlainAid
set_option maxRecDepth 100000
set_option linter.unusedVariables false
set_option linter.unusedSimpArgs false

/-- What holds of the play behind k acts. -/
structure LInv (i : Int) (k : Nat) (D : DevS) (may : List ByteArray) : Prop where
  ne : may ≠ []
  few : may.length ≤ k + 1
  len : D.sec.length = 4
  steps : D.steps ≤ (k : Int)
  law : 0 ≤ i → i ≤ 3 → May D i.toNat may
theorem linv_start (i : Int) : LInv i 0 (DevS.new 4) [sectorB 0] := by
  refine ⟨by simp, by simp, rfl, by decide, fun h0 h3 => ?_⟩
  have h1 := may_still (D := DevS.new 4) (i := i.toNat) rfl
  have e : (DevS.new 4).sec.getD i.toNat ByteArray.empty = sectorB 0 := by
    have : i.toNat < 4 := by omega
    show (List.replicate 4 DevS.noughts).getD i.toNat ByteArray.empty = _
    rw [List.getD_eq_getElem?_getD, List.getElem?_replicate, if_pos this]
    rfl
  rwa [e] at h1
theorem LInv.acts {i : Int} {k : Nat} {D : DevS} {may : List ByteArray} (h : LInv i k D may) (x : ActV) : (x.on D).1.sec.length = 4 ∧ (x.on D).1.steps ≤ ((k + 1 : Nat) : Int) := by
  have h1 := on_len x D
  have := h.steps
  exact ⟨by rw [h1.1, h.len], by omega⟩
theorem LInv.wrote {i : Int} {k : Nat} {D : DevS} {may : List ByteArray} (h : LInv i k D may) {x : ActV} (hk : x.kind = 1) (hi : x.i = i) (he : (x.on D).2 = 0) : LInv i (k + 1) (x.on D).1 (may ++ [x.textOf]) :=
  ⟨by simp, by have := h.few; simp; omega, (h.acts x).1, (h.acts x).2, fun h0 h3 => may_write hk hi he (h.law h0 h3)⟩
theorem LInv.unwrote {i : Int} {k : Nat} {D : DevS} {may : List ByteArray} (h : LInv i k D may) {x : ActV} (hk : x.kind = 1) (hi : ¬ (x.i = i ∧ (x.on D).2 = 0)) : LInv i (k + 1) (x.on D).1 may :=
  ⟨h.ne, by have := h.few; omega, (h.acts x).1, (h.acts x).2, fun h0 h3 => may_unwritten hk hi h0 (h.law h0 h3)⟩
theorem LInv.synced {i : Int} {k : Nat} {D : DevS} {may : List ByteArray} (h : LInv i k D may) {x : ActV} (hk : x.kind = 2) (he : (x.on D).2 = 0) : LInv i (k + 1) (x.on D).1 (may.drop (may.length - 1)) := by
  have hp : 0 < may.length := List.length_pos_iff.2 h.ne
  exact ⟨fun hx => by have := congrArg List.length hx; simp at this; omega, by simp; omega, (h.acts x).1, (h.acts x).2, fun h0 h3 => may_sync hk he (by rw [h.len]; omega) (h.law h0 h3)⟩
theorem LInv.unsynced {i : Int} {k : Nat} {D : DevS} {may : List ByteArray} (h : LInv i k D may) {x : ActV} (hk : x.kind = 2) (he : (x.on D).2 ≠ 0) : LInv i (k + 1) (x.on D).1 may :=
  ⟨h.ne, by have := h.few; omega, (h.acts x).1, (h.acts x).2, fun h0 h3 => may_unsynced hk he (h.law h0 h3)⟩
theorem LInv.started {i : Int} {k : Nat} {D : DevS} {may : List ByteArray} (h : LInv i k D may) {x : ActV} (hk : x.kind = 5) (he : (x.on D).2 = 0) : LInv i (k + 1) (x.on D).1 [(x.on D).1.lasts i] :=
  ⟨by simp, by simp, (h.acts x).1, (h.acts x).2, fun h0 h3 => (may_start hk he h0 (by rw [h.len]; omega)).2⟩
theorem LInv.unstarted {i : Int} {k : Nat} {D : DevS} {may : List ByteArray} (h : LInv i k D may) {x : ActV} (hk : x.kind = 5) (he : (x.on D).2 ≠ 0) : LInv i (k + 1) (x.on D).1 may :=
  ⟨h.ne, by have := h.few; omega, (h.acts x).1, (h.acts x).2, fun h0 h3 => may_unstarted hk he (h.law h0 h3)⟩
theorem LInv.other {i : Int} {k : Nat} {D : DevS} {may : List ByteArray} (h : LInv i k D may) {x : ActV} (h1 : x.kind ≠ 1) (h2 : x.kind ≠ 2) (h5 : x.kind ≠ 5) : LInv i (k + 1) (x.on D).1 may :=
  ⟨h.ne, by have := h.few; omega, (h.acts x).1, (h.acts x).2, fun h0 h3 => may_else h1 h2 h5 (h.law h0 h3)⟩
end Go.Proofs.Ytchldjjfaiikbaa
