/- Contracts of page.lay, page.filled, page.at, and of the reference's Number and Noughts. -/
import Derived.Test.YtkkgiajjdcpicaaGreatDoorTake
import Derived.Test.YtkkgiajjdcpicaaGreatDoorRepeat
namespace Go.Proofs.YtkkgiajjdcpicaaGreatDoor
open Go.RowKit
open Go.PlainAid
set_option maxRecDepth 100000

/-- Numbers with their sizes, one behind the other. -/
def lays (l : List (Nat × Nat)) : List UInt8 := l.flatMap fun p => Be.low p.1 p.2
theorem lays_snoc (l : List (Nat × Nat)) (p : Nat × Nat) : lays (l ++ [p]) = lays l ++ Be.low p.1 p.2 := by unfold lays; simp [List.flatMap_append]
theorem lays_len (l : List (Nat × Nat)) (h : ∀ p ∈ l, p.2 ≤ 8) : (lays l).length ≤ 8 * l.length := by
  induction l with
  | nil => simp [lays]
  | cons p l ih =>
    have h1 := h p (by simp)
    have h2 := ih (fun q hq => h q (by simp [hq]))
    have e : lays (p :: l) = Be.low p.1 p.2 ++ lays l := by unfold lays; simp
    rw [e, List.length_append, Be.low_len, List.length_cons]
    omega

/-- The numbers lie in block g. -/
def NumsAt (w : World) (g : Nat) (l : List (Nat × Nat)) : Prop :=
  g < w.heap.size ∧ ∀ i (h : i < l.length), w.cell? ⟨g, i * 2, none⟩ = some (.int .i64 (l[i].1 : Nat)) ∧ w.cell? ⟨g, i * 2 + 1, none⟩ = some (.int .i64 (l[i].2 : Nat))
def Fits (l : List (Nat × Nat)) : Prop := ∀ p ∈ l, 1 ≤ p.2 ∧ p.2 ≤ 8 ∧ p.1 < 256 ^ p.2 ∧ p.1 < 281474976710656

theorem NumsAt.below {w w' : World} {g : Nat} {l : List (Nat × Nat)} (h : NumsAt w g l) (hb : Below w.heap.size w w') : NumsAt w' g l :=
  ⟨Nat.lt_of_lt_of_le h.1 hb.size, fun i hi => ⟨(hb.cell (p := ⟨g, i * 2, none⟩) h.1).trans (h.2 i hi).1, (hb.cell (p := ⟨g, i * 2 + 1, none⟩) h.1).trans (h.2 i hi).2⟩⟩

set_option maxHeartbeats 1000000 in
theorem lay_any (s : ByteArray) (g m : Nat) (l : List (Nat × Nat)) (w : World) (hm : m = l.length) (hl : l.length ≤ 100) (hs : s.size ≤ 10000) (hg : NumsAt w g l) (hf : Fits l) :
    Calls Tryz.prog 160 #[.string s, .slice (some ⟨g, 0, none⟩) m m] w (TellsS (s ++ ⟨(lays l).toArray⟩) w) := by
  subst hm
  have HG := Lib.hid hg
  have HF := Lib.hid hf
  clear hg hf
  go_enter Tryz.func160, Tryz.ntmps160
  go_wp2_with fail
  go_loopw [0, 9] (fun x i wr => ∃ (j : Nat), i = .int .i64 j ∧ x = .string (s ++ ⟨(lays (l.take j)).toArray⟩) ∧ j ≤ l.length ∧ Hid (Below w.heap.size w wr)) (fun _ i _ => l.length - (intOf i).toNat)
  case atStart => exact ⟨0, rfl, by congr 1; apply str_eq; rw [append_list]; simp [lays], Nat.zero_le _, Below.refl _ _⟩
  case round =>
    obtain ⟨j, rfl, rfl, hj, HB⟩ := hrel
    by_cases hlt : j < l.length
    · obtain ⟨c1, c2⟩ := (HG.out.below HB.out).2 j hlt
      have hgl := (HG.out.below HB.out).1
      obtain ⟨f1, f2, f3, f4⟩ := HF.out l[j] (List.getElem_mem hlt)
      have hsz : (s ++ ⟨(lays (l.take j)).toArray⟩ : ByteArray).size ≤ 20000 := by
        have := lays_len (l.take j) (fun p hp => (HF.out p (List.mem_of_mem_take hp)).2.1)
        rw [List.length_take] at this
        have e := size_list (lays (l.take j))
        rw [ByteArray.size_append]
        omega
      have HT := Lib.hid (show (s ++ ⟨(lays (l.take j)).toArray⟩ ++ ⟨(Be.low l[j].1 l[j].2).toArray⟩ : ByteArray) = s ++ ⟨(lays (l.take (j + 1))).toArray⟩ by
        apply str_eq
        rw [List.take_succ_eq_append_getElem hlt, lays_snoc, append_list, append_list, append_list]
        simp)
      have HP := Lib.hid fun W : World => put_ok (s ++ ⟨(lays (l.take j)).toArray⟩) l[j].1 l[j].2 W (by omega) f1 f2 f3
      generalize (s ++ ⟨(lays (l.take j)).toArray⟩ : ByteArray) = sx at *
      generalize l[j].1 = n at *
      generalize l[j].2 = k at *
      have hws := HB.out.size
      clear f3
      go_wp2_with (first
        | (go_at_call 144; refine (HP.out _).mono ?_; rintro e w2 ⟨rfl, hb2⟩)
        | fail)
      have hb3 : Below w.heap.size w w2 := (HB.out.alloc hws _).trans (hb2.mono (by simp; omega))
      go_roundw
      case rel => exact ⟨j + 1, by go_num, by rw [HT.out], by omega, hb3⟩
      case measure => simp [intOf]; omega
    · have HT := Lib.hid (show l.take j = l from List.take_of_length_le (by omega))
      go_wp2_with fail
      go_ret
      exact tellsS_of (by rw [HT.out]) HB.out

theorem filled_any (s : ByteArray) (m : Nat) (w : World) (hs : s.size ≤ m) (hm : m ≤ 8000) :
    Calls Tryz.prog 161 #[.string s, .int .i64 m] w (TellsS (s ++ noughts (m - s.size)) w) := by
  have HR := Lib.hid fun W : World => repeat_any (m - s.size) W (by omega)
  have e : (m : Int) - s.size = ((m - s.size : Nat) : Int) := by omega
  have hz : (noughts (m - s.size)).size ≤ 8000 := by rw [noughts_size]; omega
  generalize m - s.size = c at *
  generalize noughts c = nc at *
  go_enter Tryz.func161, Tryz.ntmps161
  go_wp2_with (first
    | (go_at_call 214; refine (HR.out _).mono ?_; rintro e w2 ⟨rfl, hb2⟩)
    | fail)
  go_ret
  exact ⟨rfl, hb2⟩

def TellsI (q : Int) (w : World) (e : Ending) (w' : World) : Prop := e = .returned (.int .i64 q) ∧ Below w.heap.size w w'

theorem at_any (s : ByteArray) (p k : Nat) (w : World) (hs : s.size ≤ 1000000) (h1 : 1 ≤ k) (h8 : k ≤ 8) (hp : p + k ≤ s.size) :
    Calls Tryz.prog 186 #[.string s, .int .i64 p, .int .i64 k] w (TellsI (wrap64 (numAt s p k)) w) := by
  have HT := Lib.hid fun W : World => take_ok s p k W hs h1 h8 hp
  generalize numAt s p k = n at *
  go_enter Tryz.func186, Tryz.ntmps186
  go_wp2_with (first
    | (go_at_call 104; refine (HT.out _).mono ?_; rintro e w2 ⟨rfl, hb2⟩)
    | fail)
  go_ret
  exact ⟨rfl, hb2⟩

end Go.Proofs.YtkkgiajjdcpicaaGreatDoor
