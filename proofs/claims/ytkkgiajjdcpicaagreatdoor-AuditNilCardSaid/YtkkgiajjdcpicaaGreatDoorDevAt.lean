/- A device in memory: its six cells, the sectors' row, the map of what waits, a row of its own for each sector with writes that wait. -/
import Derived.Test.YtkkgiajjdcpicaaGreatDoorKit
import Derived.Test.YtkkgiajjdcpicaaGreatDoorPlainDev
import Derived.Test.YtkkgiajjdcpicaaGreatDoorIMap
namespace Go.Proofs.YtkkgiajjdcpicaaGreatDoor
open Go.RowKit
open Go.PlainAid
set_option maxRecDepth 100000
set_option linter.unusedVariables false

theorem Bk.six {w : World} {g : Nat} {t : TypeId} {c0 c1 c2 c3 c4 c5 : Value} (h : Bk w g t #[c0, c1, c2, c3, c4, c5]) :
    w.cell? ⟨g, 0, none⟩ = some c0 ∧ w.cell? ⟨g, 1, none⟩ = some c1 ∧ w.cell? ⟨g, 2, none⟩ = some c2 ∧ w.cell? ⟨g, 3, none⟩ = some c3 ∧ w.cell? ⟨g, 4, none⟩ = some c4 ∧ w.cell? ⟨g, 5, none⟩ = some c5 :=
  ⟨by simpa using h.cell 0, by simpa using h.cell 1, by simpa using h.cell 2, by simpa using h.cell 3, by simpa using h.cell 4, by simpa using h.cell 5⟩

/-- A device's six cells: what lasts (n sectors in block l), what waits (the map m), whether it is off, its fuse, steps, writes. -/
abbrev devCells (l n : Nat) (m : Nat) (off : Bool) (fuse steps writes : Int) : Array Value :=
  #[.slice (some ⟨l, 0, none⟩) n n, .map (some m), .bool off, .int .i64 fuse, .int .i64 steps, .int .i64 writes]

def strs (l : List ByteArray) : List Value := l.map Value.string
theorem strs_len (l : List ByteArray) : (strs l).length = l.length := by simp [strs]
theorem strs_one (l : List ByteArray) : ∀ u ∈ strs l, u.oneCell' = true := by
  intro u hu
  obtain ⟨x, _, rfl⟩ := List.mem_map.1 hu
  rfl

/-- Which slice stands at a sector's key. -/
def waitV (row : List (Nat × ByteArray)) (B C : Nat → Nat) (i : Int) : Option Value :=
  if 0 ≤ i ∧ waitsOf row i.toNat ≠ [] then some (.slice (some ⟨B i.toNat, 0, none⟩) (waitsOf row i.toNat).length (C i.toNat)) else none

/-- Pointer g is a device that is D; all its blocks are in S. -/
structure DevAt (w : World) (g : Nat) (S : List Nat) (D : DevS) (l m nn : Nat) (B C : Nat → Nat) : Prop where
  ok : D.Ok
  cells : Bk w g 138 (devCells l D.sec.length m D.off D.fuse D.steps D.writes)
  sec : Bk w l 9 (strs D.sec).toArray
  map : IMap Tryz.prog 3 w m nn (waitV D.row B C)
  nn : (nn : Int) ≤ D.writes
  own : ∀ i, D.waits i ≠ [] → w.ownsRow 0 9 1 (.slice (some ⟨B i, 0, none⟩) (D.waits i).length (C i)) (D.waits i).length (strs (D.waits i))
  apart : ∀ i j, D.waits i ≠ [] → D.waits j ≠ [] → B i = B j → i = j
  apartL : ∀ i, D.waits i ≠ [] → B i ≠ l
  inS : g ∈ S ∧ l ∈ S ∧ m ∈ S ∧ ∀ i, D.waits i ≠ [] → B i ∈ S
  old : ∀ b ∈ S, b < w.heap.size

def Dev (w : World) (g : Nat) (S : List Nat) (D : DevS) : Prop := ∃ l m nn B C, DevAt w g S D l m nn B C

theorem DevAt.off {w w' : World} {g : Nat} {S T : List Nat} {D : DevS} {l m nn : Nat} {B C : Nat → Nat} (h : DevAt w g S D l m nn B C) (ho : Off T w w') (hT : ∀ b ∈ S, b ∉ T) : DevAt w' g S D l m nn B C := by
  obtain ⟨i1, i2, i3, i4⟩ := h.inS
  exact ⟨h.ok, ho.bk h.cells (hT _ i1), ho.bk h.sec (hT _ i2), h.map.off ho (hT _ i3), h.nn, fun i hi => ho.own (h.own i hi) (fun b hb => by
    have : b = B i := by simpa [Value.ownBlock] using hb.symm
    subst this
    exact hT _ (i4 i hi)), h.apart, h.apartL, h.inS, fun b hb => Nat.lt_of_lt_of_le (h.old b hb) ho.size⟩
theorem Dev.off {w w' : World} {g : Nat} {S T : List Nat} {D : DevS} (h : Dev w g S D) (ho : Off T w w') (hT : ∀ b ∈ S, b ∉ T) : Dev w' g S D := by
  obtain ⟨l, m, nn, B, C, h⟩ := h
  exact ⟨l, m, nn, B, C, h.off ho hT⟩
theorem Dev.ok {w : World} {g : Nat} {S : List Nat} {D : DevS} (h : Dev w g S D) : D.Ok := by
  obtain ⟨l, m, nn, B, C, h⟩ := h
  exact h.ok
theorem Dev.old {w : World} {g : Nat} {S : List Nat} {D : DevS} (h : Dev w g S D) : ∀ b ∈ S, b < w.heap.size := by
  obtain ⟨l, m, nn, B, C, h⟩ := h
  exact h.old
theorem Dev.mem {w : World} {g : Nat} {S : List Nat} {D : DevS} (h : Dev w g S D) : g ∈ S := by
  obtain ⟨l, m, nn, B, C, h⟩ := h
  exact h.inS.1
theorem Dev.below {w w' : World} {g : Nat} {S : List Nat} {D : DevS} (h : Dev w g S D) (hb : Below w.heap.size w w') : Dev w' g S D := h.off (Off.of_below hb []) (fun _ _ => List.not_mem_nil)
theorem Dev.drewN {w : World} {g : Nat} {S : List Nat} {D : DevS} (h : Dev w g S D) (n : Nat) : Dev (w.drewN n) g S D := h.off ((Off.refl [] w).drewN n) (fun _ _ => List.not_mem_nil)

/-- A footprint that has grown by new blocks alone. -/
def Fresh (w : World) (S S' : List Nat) : Prop := ∀ b ∈ S', b ∈ S ∨ w.heap.size ≤ b
theorem Fresh.refl (w : World) (S : List Nat) : Fresh w S S := fun _ h => .inl h
theorem Fresh.trans {w w' : World} {S S' S'' : List Nat} (h : Fresh w S S') (k : Fresh w' S' S'') (hs : w.heap.size ≤ w'.heap.size) : Fresh w S S'' := fun b hb => by
  rcases k b hb with hb | hb
  · exact h b hb
  · exact .inr (Nat.le_trans hs hb)
/-- Two steps on two footprints. -/
theorem Off.fresh {S S' : List Nat} {a b c : World} (h : Off S a b) (k : Off S' b c) (hf : Fresh a S S') : Off S a c := h.then k hf
/-- What was apart stays apart. -/
theorem Fresh.apart {w : World} {S S' T : List Nat} (h : Fresh w S S') (ha : ∀ b ∈ T, b ∉ S) (hT : ∀ b ∈ T, b < w.heap.size) : ∀ b ∈ T, b ∉ S' := fun b hb hs => by
  rcases h b hs with h1 | h1
  · exact ha b hb h1
  · have := hT b hb; omega

/-- What a call on a device leaves: an answer, the device as D'. -/
def DevPost (g : Nat) (S : List Nat) (D' : DevS) (r : Value) (w : World) (e : Ending) (w' : World) : Prop :=
  e = .returned r ∧ ∃ S', Dev w' g S' D' ∧ Off S w w' ∧ Fresh w S S'
/-- A call that tells something and writes nothing that was there. -/
def Tells (r : Value) (w : World) (e : Ending) (w' : World) : Prop := e = .returned r ∧ Below w.heap.size w w'
end Go.Proofs.YtkkgiajjdcpicaaGreatDoor
