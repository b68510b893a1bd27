/- Contract of ber.value: it tells the tree of just these bytes, or it throws. -/
import Derived.Test.YtipphdadibdifaaWhole
import Derived.Test.YtipphdadibdifaaBerNumbers
import Derived.Deep.DeepCutAuto
import Derived.Deep.RegionWith
import Derived.Deep.RegionHeld3
import Derived.StillTailTactics
import Derived.RegionTactic
import Derived.BigRegion
namespace Go.Proofs.Ytipphdadibdifaa
open Go.RowKit
open Go.PlainAid

theorem info_tlv : (Try.prog.info? 44).map (fun i => (i.zero, i.size, i.bytes)) = some (some (.agg #[.int .i64 0, .bool false, .int .i64 0, .string ByteArray.empty, .slice none 0 0]), 5, 64) := by kernel_rfl

/-- What value leaves. -/
def ValPost (r : Except Nat Tl) (w : World) (e : Ending) (w' : World) : Prop :=
  Below w.heap.size w w' ∧ match r with
    | .ok t => ∃ cs, e = .returned (.agg cs) ∧ TlAt w' (fun b => w.heap.size ≤ b) t cs
    | .error er => Throws er e

theorem and32 : ∀ b : Nat, b < 256 → b &&& 32 = b / 32 % 2 * 32 := by decide +kernel

theorem u8_and32 (b : Nat) (h : b < 256) : bits BinOp.and IntKind.u8 (b : Int) 32 = ((b / 32 % 2 * 32 : Nat) : Int) := by
  have h1 := u8_and_nat b 32 h (by omega)
  have e : b &&& 32 = b / 32 % 2 * 32 := and32 b h
  rw [e] at h1
  exact h1

theorem below_cells {w W : World} (h : Below w.heap.size w W) (v0 v1 v2 v3 v4 : Value) :
    Below w.heap.size w (((((W.setCell ⟨w.heap.size, 0, none⟩ v0).setCell ⟨w.heap.size, 1, none⟩ v1).setCell ⟨w.heap.size, 2, none⟩ v2).setCell ⟨w.heap.size, 3, none⟩ v3).setCell ⟨w.heap.size, 4, none⟩ v4) :=
  ((((h.setCell (Nat.le_refl _) _).setCell (Nat.le_refl _) _).setCell (Nat.le_refl _) _).setCell (Nat.le_refl _) _).setCell (Nat.le_refl _) _

theorem str_eq {a b : ByteArray} (h : a.data.toList = b.data.toList) : a = b := by
  rw [str_of_list h]

theorem tlAt_flat {w : World} {S : Nat → Prop} (b0 : Nat) (h : b0 < 256) {x y : ByteArray} (hxy : x = y) (hx : x.size ≤ maxLen) :
    TlAt w S (.mk (b0 / 64 : Nat) false (b0 % 32 : Nat) y []) #[.int .i64 ((b0 : Int) / 64), .bool false, .int .i64 ((b0 : Int) % 32), .string x, .slice none 0 0] := by
  subst hxy
  unfold TlAt
  exact ⟨none, 0, rfl, Nat.zero_le _, WalkArith.wf_i64 (by omega), WalkArith.wf_i64 (by omega), hx, by unfold KsAt; trivial⟩

set_option maxRecDepth 100000 in
theorem value_no (s : ByteArray) (d k : Nat) (w : World) (hs : s.size ≤ 1000000) (h : (PB.head s.data.toList).2.2 ≠ 0 ∨ PB.span s.data.toList ≠ s.size) :
    Calls Try.prog 40 #[.string s, .int .i64 d] w (ValPost (PB.val k s.data.toList) w) := by
  have hl := PB.head_le s.data.toList
  have hv : PB.val k s.data.toList = .error 4 := by
    rw [PB.val_eq]
    unfold PB.valOf
    rw [len_size, if_pos h]
  rw [hv]
  unfold PB.span at h
  have HH := Lib.hid fun W : World => head_any s W (by unfold maxLen; omega)
  generalize PB.head s.data.toList = p at hl HH h
  obtain ⟨a, n, er⟩ := p
  dsimp only at hl HH h
  obtain ⟨hl1, hl2⟩ := hl
  clear hv
  by_cases he : er = 0
  · subst he
    have h2 : ((n : Int) != (s.size : Int) - a) = true := by simp; omega
    clear h
    go_enter Try.func40, Try.ntmps40
    go_wp2_with (go_at_call 42; refine (HH.out _).mono ?_; rintro e w' ⟨rfl, nq, rfl⟩)
    exact ⟨rfl, below_drewN ((Below.refl _ _).alloc (Nat.le_refl _) _) _, rfl⟩
  · have h1 : ((er : Int) != 0) = true := by simp; omega
    clear he h
    go_enter Try.func40, Try.ntmps40
    go_wp2_with (go_at_call 42; refine (HH.out _).mono ?_; rintro e w' ⟨rfl, nq, rfl⟩)
    exact ⟨rfl, below_drewN ((Below.refl _ _).alloc (Nat.le_refl _) _) _, rfl⟩

set_option maxRecDepth 100000 in
set_option maxHeartbeats 1000000 in
theorem value_prim (s : ByteArray) (d k : Nat) (w : World) (hs : s.size ≤ 1000000) (h : ¬ ((PB.head s.data.toList).2.2 ≠ 0 ∨ PB.span s.data.toList ≠ s.size)) (hc : PB.byt s.data.toList 0 / 32 % 2 = 0) :
    Calls Try.prog 40 #[.string s, .int .i64 d] w (ValPost (PB.val k s.data.toList) w) := by
  have hl := PB.head_le s.data.toList
  have hv : PB.val k s.data.toList = .ok (.mk (PB.byt s.data.toList 0 / 64 : Nat) false (PB.byt s.data.toList 0 % 32 : Nat) ⟨(s.data.toList.drop (PB.head s.data.toList).1).toArray⟩ []) := by
    rw [PB.val_eq]
    unfold PB.valOf
    rw [len_size, if_neg h, if_pos hc]
  rw [hv]
  have hft := PB.head_fits s.data.toList (by omega)
  rw [len_size] at hft
  unfold PB.span at h
  have HH := Lib.hid fun W : World => head_any s W (by unfold maxLen; omega)
  have h0 : 0 < s.size := by omega
  have hg := get_bt s 0 h0
  have tb := byt_bt s 0
  have hb0 := PB.byt_lt s.data.toList 0
  rw [tb] at hg
  generalize PB.byt s.data.toList 0 = b0 at *
  generalize PB.head s.data.toList = p at hl HH h hft
  obtain ⟨a, n, er⟩ := p
  dsimp only at hl HH h hft
  obtain ⟨hl1, hl2⟩ := hl
  obtain rfl : er = 0 := by omega
  have h2 : ((n : Int) != (s.size : Int) - a) = false := by simp; omega
  clear hv tb h
  have e1 := u8_and31 (b0 : Int) (by omega) (by omega)
  have e2 : (bits BinOp.and IntKind.u8 (b0 : Int) 32 != 0) = false := by rw [u8_and32 b0 hb0]; simp [hc]
  clear hc
  go_enter Try.func40, Try.ntmps40
  go_wp2_with (go_at_call 42; refine (HH.out _).mono ?_; rintro e w' ⟨rfl, nq, rfl⟩)
  go_region
  go_wp2_with fail
  refine bodyPost_ret (v := .agg #[.int .i64 ((b0 : Int) / 64), .bool false, .int .i64 ((b0 : Int) % 32), .string (s.extract a s.size), .slice none 0 0]) (by simp [results, Try.results40, go_sem]) rfl ⟨?_, _, rfl, ?_⟩
  · exact (below_cells (below_drewN ((Below.refl _ _).alloc (Nat.le_refl _) _) _) _ _ _ _ _).alloc (by simp) _
  · exact tlAt_flat b0 hb0 (str_eq (by rw [extract_list, List.take_of_length_le (by rw [List.length_drop, len_size]; omega)])) (by rw [ByteArray.size_extract]; unfold maxLen; omega)

end Go.Proofs.Ytipphdadibdifaa
