/- Words that all walks of this seat use: bytes as cells, strings and rows, what a call leaves. -/
import Derived.Test.YtkkgiajjdcpicaaGreatDoorChecked
import Derived.Test.YtkkgiajjdcpicaaGreatDoorWords
import Derived.Test.YtkkgiajjdcpicaaGreatDoorAppend
import Derived.Test.YtkkgiajjdcpicaaGreatDoorMarked
import Derived.Test.YtkkgiajjdcpicaaGreatDoorPlainBits
import Derived.WalkKit
import Derived.WalkSpells
import Derived.WalkLawsBesides
import Derived.Deep.QuietTactic
import Derived.BigQuiet
import Derived.Lib.Hide
import Derived.Maps.AppendAt
import Derived.Deep.LoopGhost
import Derived.Outline
import Derived.Laws.BytesArg
import Derived.Deep.DeepCutAuto
import Derived.Deep.RegionHeld3
import Derived.StillTailTactics
import Derived.Deep.RegionWith
namespace Go.Proofs.YtkkgiajjdcpicaaGreatDoor
open Go.RowKit
open Go.PlainAid
set_option maxRecDepth 100000

/-- A law holds: true, and nothing that was there has turned. -/
def Holds (w : World) (e : Ending) (w' : World) : Prop := e = .returned (.bool true) ∧ Below w.heap.size w w'
/-- A call that tells a truth and makes memory alone. -/
def TellsQ (q : Bool) (w : World) (e : Ending) (w' : World) : Prop := e = .returned (.bool q) ∧ Below w.heap.size w w'
/-- .. a text. -/
def TellsS (s : ByteArray) (w : World) (e : Ending) (w' : World) : Prop := e = .returned (.string s) ∧ Below w.heap.size w w'
theorem tellsQ_of {q q' : Bool} {w w' : World} (h : q = q') (hb : Below w.heap.size w w') : TellsQ q w (.returned (.bool q')) w' := by subst h; exact ⟨rfl, hb⟩
theorem tellsS_of {q q' : ByteArray} {w w' : World} (h : q = q') (hb : Below w.heap.size w w') : TellsS q w (.returned (.string q')) w' := by subst h; exact ⟨rfl, hb⟩

theorem bk_below {w w' : World} {g : Nat} {t : TypeId} {cs : Array Value} (h : Bk w g t cs) (hb : Below w.heap.size w w') : Bk w' g t cs := (hb.block g h.lt).trans h
theorem bcell {W w1 : World} (hb : Below W.heap.size W w1) : (∀ b o, b < W.heap.size → w1.cell? ⟨b, o, none⟩ = W.cell? ⟨b, o, none⟩) ∧ (∀ b o, b < W.heap.size → w1.frozen? ⟨b, o, none⟩ = W.frozen? ⟨b, o, none⟩) :=
  ⟨fun b o h => hb.cell (p := ⟨b, o, none⟩) h, fun b o h => hb.frozen (p := ⟨b, o, none⟩) h⟩
theorem Bk.four {w : World} {g : Nat} {t : TypeId} {c0 c1 c2 c3 : Value} (h : Bk w g t #[c0, c1, c2, c3]) :
    w.cell? ⟨g, 0, none⟩ = some c0 ∧ w.cell? ⟨g, 1, none⟩ = some c1 ∧ w.cell? ⟨g, 2, none⟩ = some c2 ∧ w.cell? ⟨g, 3, none⟩ = some c3 :=
  ⟨by simpa using h.cell 0, by simpa using h.cell 1, by simpa using h.cell 2, by simpa using h.cell 3⟩
theorem Bk.five {w : World} {g : Nat} {t : TypeId} {c0 c1 c2 c3 c4 : Value} (h : Bk w g t #[c0, c1, c2, c3, c4]) :
    w.cell? ⟨g, 0, none⟩ = some c0 ∧ w.cell? ⟨g, 1, none⟩ = some c1 ∧ w.cell? ⟨g, 2, none⟩ = some c2 ∧ w.cell? ⟨g, 3, none⟩ = some c3 ∧ w.cell? ⟨g, 4, none⟩ = some c4 :=
  ⟨by simpa using h.cell 0, by simpa using h.cell 1, by simpa using h.cell 2, by simpa using h.cell 3, by simpa using h.cell 4⟩

theorem str_of_list {r : ByteArray} {l : List UInt8} (h : r.data.toList = l) : r = ⟨l.toArray⟩ := by subst h; rfl
theorem str_eq {a b : ByteArray} (h : a.data.toList = b.data.toList) : a = b := by rw [str_of_list h]
theorem size_list (l : List UInt8) : (⟨l.toArray⟩ : ByteArray).size = l.length := by simp [ByteArray.size]
theorem len_size (s : ByteArray) : s.data.toList.length = s.size := rfl
theorem extract_list (s : ByteArray) (a b : Nat) : (s.extract a b).data.toList = (s.data.toList.drop a).take (b - a) := by
  rw [ByteArray.data_extract, Array.toList_extract, List.extract_eq_take_drop]
theorem append_list (a b : ByteArray) : (a ++ b).data.toList = a.data.toList ++ b.data.toList := by
  rw [ByteArray.data_append, Array.toList_append]
theorem app_list (a : ByteArray) (l : List UInt8) : (a ++ ⟨l.toArray⟩ : ByteArray) = ⟨(a.data.toList ++ l).toArray⟩ := by
  apply str_of_list
  rw [append_list]

/-- bytes as cells. -/
def u8s (l : List UInt8) : List Value := l.map fun c => .int .u8 c.toNat
theorem u8s_len (l : List UInt8) : (u8s l).length = l.length := by simp [u8s]
theorem u8s_app (a b : List UInt8) : u8s (a ++ b) = u8s a ++ u8s b := by simp [u8s]
theorem u8s_one (l : List UInt8) : ∀ u ∈ u8s l, u.oneCell' = true := by
  intro u hu
  obtain ⟨x, _, rfl⟩ := List.mem_map.1 hu
  rfl
theorem add_zero_addr (g j : Nat) : (⟨g, 0, none⟩ : Addr).add j = ⟨g, j, none⟩ := by
  unfold Addr.add
  by_cases h0 : j = 0 <;> simp [h0]

theorem info_u8 : (Tryz.prog.info? 5).map (fun i => (i.zero, i.size, i.bytes)) = some (some (.int .u8 0), 1, 1) := by kernel_rfl

/-- A row of bytes turned into a string: only that its cells read so is asked. -/
theorem conv_cells {W : World} {g o n cap : Nat} {L : List UInt8} (hn : n = L.length) (h : ∀ j (hj : j < L.length), W.cell? ⟨g, o + j, none⟩ = some (.int .u8 (L[j].toNat : Int))) :
    (convert 52 9 (.slice (some ⟨g, o, none⟩) n cap)).run Tryz.prog W = .ok (.string ⟨L.toArray⟩) W := by
  have h1 := run_convert_bytes_arg W 52 5 Tryz.underlying52 Tryz.underlying5 g o n cap (L.map fun c => (c.toNat : Int)) (by simp [hn]) (fun i hi => by
    rw [h i (by omega)]
    rw [List.getD_eq_getElem?_getD, List.getElem?_map, List.getElem?_eq_getElem (by omega)]
    rfl) 9 Tryz.underlying9
  rw [h1]
  have e : strOfNums (L.map fun c => (c.toNat : Int)) = ⟨L.toArray⟩ := by
    apply str_of_list
    rw [strOfNums_data, List.map_map]
    have : (fun n : Int => UInt8.ofNat n.toNat) ∘ (fun c : UInt8 => (c.toNat : Int)) = id := by
      funext c
      simp
    rw [this, List.map_id]
  rw [e]

theorem conv_own {W : World} {B g n cap : Nat} {L : List UInt8} (h : W.ownsRow B 5 1 (.slice (some ⟨g, 0, none⟩) n cap) L.length (u8s L)) :
    (convert 52 9 (.slice (some ⟨g, 0, none⟩) n cap)).run Tryz.prog W = .ok (.string ⟨L.toArray⟩) W := by
  have hn : n = L.length := by
    rcases h.2 with ⟨h0, _⟩ | ⟨g', cap', cur, h0, _⟩
    · cases h0
    · injection h0
  refine conv_cells hn fun j hj => ?_
  have h1 := h.cells (g := g) rfl j (.int .u8 (L[j].toNat : Int)) (by
    unfold u8s
    rw [List.getElem?_map, List.getElem?_eq_getElem hj]
    rfl)
  rw [add_zero_addr] at h1
  rw [Nat.zero_add]
  exact h1

/-- A row's bytes as a string. -/
theorem conv_row (W : World) (b0 : Nat) (A : Option Addr) (c : Nat) (l : List UInt8) (h : W.ownsRow b0 5 1 (.slice A l.length c) l.length (u8s l)) (h0 : 0 < l.length) :
    (convert 52 9 (.slice A l.length c)).run Tryz.prog W = .ok (.string ⟨l.toArray⟩) W := by
  obtain ⟨g, cap, hv, _, hlt⟩ := h.form (by simpa [u8s] using h0)
  simp only [Value.slice.injEq] at hv
  obtain ⟨hA, _, hc⟩ := hv
  subst hA
  subst hc
  exact conv_own h

set_option maxRecDepth 100000 in
/-- A string's bytes as a row. -/
theorem conv_bytes (b : ByteArray) (hb : b.size ≤ maxLen) (W : World) : ∃ (A : Option Addr) (cap : Nat) (W1 : World), (convert 9 52 (.string b)).run Tryz.prog W = .ok (.slice A b.size cap) W1 ∧ OwnM W1 W.heap.size 5 (.slice A b.size cap) b.size (u8s b.data.toList) ∧ Below W.heap.size W W1 := by
  refine ⟨_, _, _, run_bytes_of_string (P := Tryz.prog) W 9 52 5 b Tryz.underlying9 Tryz.underlying52 Tryz.underlying5, OwnM.bytes W 5 b hb _ (Nat.le_refl _), ?_⟩
  exact ((Below.refl _ _).drew).alloc (Nat.le_refl _) _
end Go.Proofs.YtkkgiajjdcpicaaGreatDoor
