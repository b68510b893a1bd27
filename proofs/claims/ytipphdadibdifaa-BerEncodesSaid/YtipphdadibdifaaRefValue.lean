/- Contract of the reference's Value: what is none, and values without values within. -/
import Derived.Test.YtipphdadibdifaaValue2
namespace Go.Proofs.Ytipphdadibdifaa
open Go.RowKit
open Go.PlainAid

/-- What the reference's Value leaves. -/
def RValPost (r : Except Nat Tl) (w : World) (e : Ending) (w' : World) : Prop :=
  Below w.heap.size w w' ∧ match r with
    | .ok t => ∃ cs, e = .returned (.tuple #[.agg cs, .int .i64 0]) ∧ TlAt w' (fun b => w.heap.size ≤ b) t cs
    | .error er => er ≠ 0 ∧ e = .returned (.tuple #[.agg (flat 0 0 ⟨#[]⟩), .int .i64 er])

theorem rvalPost_err {r : Except Nat Tl} {w w' : World} {er : Nat} (h : r = .error er) (h0 : er ≠ 0) (hb : Below w.heap.size w w') : RValPost r w (.returned (.tuple #[.agg (flat 0 0 ⟨#[]⟩), .int .i64 er])) w' := by
  subst h
  exact ⟨hb, h0, rfl⟩

theorem rvalPost_ok {r : Except Nat Tl} {w w' : World} {t : Tl} {cs : Array Value} (h : r = .ok t) (hb : Below w.heap.size w w') (ht : TlAt w' (fun b => w.heap.size ≤ b) t cs) : RValPost r w (.returned (.tuple #[.agg cs, .int .i64 0])) w' := by
  subst h
  exact ⟨hb, cs, rfl, ht⟩

set_option maxRecDepth 100000 in
set_option maxHeartbeats 1000000 in
theorem rvalue_no (s : ByteArray) (d k : Nat) (w : World) (hs : s.size ≤ 1000000) (h : (PB.head s.data.toList).2.2 ≠ 0 ∨ PB.span s.data.toList ≠ s.size) :
    Calls Try.prog 41 #[.string s, .int .i64 d] w (RValPost (PB.val k s.data.toList) w) := by
  have hl := PB.head_le s.data.toList
  have hv : PB.val k s.data.toList = .error 4 := by
    rw [PB.val_eq]
    unfold PB.valOf
    rw [len_size, if_pos h]
  rw [hv]
  unfold PB.span at h
  have HH := Lib.hid fun W : World => rhead_any s W (by unfold maxLen; omega)
  generalize PB.head s.data.toList = p at hl HH h
  obtain ⟨a, n, er⟩ := p
  dsimp only at hl HH h
  obtain ⟨hl1, hl2⟩ := hl
  clear hv
  by_cases he : er = 0
  · subst he
    have HH := Lib.hid (show ∀ W : World, Calls Try.prog 43 #[.string s] W (Tells3 (a : Int) (n : Int) 0 W) from HH.out)
    have h2 : ((a : Int) + n != (s.size : Int)) = true := by simp; omega
    have hw : IntKind.i64.wrap ((a : Int) + n) = (a : Int) + n := IntWalk.i64_in _ (by omega)
    clear h
    go_enter Try.func41, Try.ntmps41
    go_wp2_with (go_at_call 43; refine (HH.out _).mono ?_; rintro e w' ⟨rfl, nq, rfl⟩)
    refine bodyPost_ret (v := .tuple #[.agg (flat 0 0 ⟨#[]⟩), .int .i64 4]) (by simp [results, Try.results41, go_sem, flat]) rfl ⟨?_, by decide, rfl⟩
    exact below_cells (below_drewN ((Below.refl _ _).alloc (Nat.le_refl _) _) _) _ _ _ _ _
  · have h1 : ((er : Int) != 0) = true := by simp; omega
    clear he h
    go_enter Try.func41, Try.ntmps41
    go_wp2_with (go_at_call 43; refine (HH.out _).mono ?_; rintro e w' ⟨rfl, nq, rfl⟩)
    refine bodyPost_ret (v := .tuple #[.agg (flat 0 0 ⟨#[]⟩), .int .i64 4]) (by simp [results, Try.results41, go_sem, flat]) rfl ⟨?_, by decide, rfl⟩
    exact below_cells (below_drewN ((Below.refl _ _).alloc (Nat.le_refl _) _) _) _ _ _ _ _

set_option maxRecDepth 100000 in
set_option maxHeartbeats 1000000 in
theorem rvalue_prim (s : ByteArray) (d k : Nat) (w : World) (hs : s.size ≤ 1000000) (h : ¬ ((PB.head s.data.toList).2.2 ≠ 0 ∨ PB.span s.data.toList ≠ s.size)) (hc : PB.byt s.data.toList 0 / 32 % 2 = 0) :
    Calls Try.prog 41 #[.string s, .int .i64 d] w (RValPost (PB.val k s.data.toList) w) := by
  have hl := PB.head_le s.data.toList
  have hv : PB.val k s.data.toList = .ok (.mk (PB.byt s.data.toList 0 / 64 : Nat) false (PB.byt s.data.toList 0 % 32 : Nat) ⟨(s.data.toList.drop (PB.head s.data.toList).1).toArray⟩ []) := by
    rw [PB.val_eq]
    unfold PB.valOf
    rw [len_size, if_neg h, if_pos hc]
  rw [hv]
  have hft := PB.head_fits s.data.toList (by omega)
  rw [len_size] at hft
  unfold PB.span at h
  have HH := Lib.hid fun W : World => rhead_any s W (by unfold maxLen; omega)
  have h0 : 0 < s.size := by omega
  have hg := get_bt s 0 h0
  have tb := byt_bt s 0
  have hb0 := PB.byt_lt s.data.toList 0
  rw [tb] at hg
  generalize PB.byt s.data.toList 0 = b0 at *
  generalize PB.head s.data.toList = p at hl HH h hft
  obtain ⟨a, n, er⟩ := p
  dsimp only at hl HH h hft
  obtain ⟨hl1, hl2⟩ := hl
  obtain rfl : er = 0 := by omega
  have HH := Lib.hid (show ∀ W : World, Calls Try.prog 43 #[.string s] W (Tells3 (a : Int) (n : Int) 0 W) from HH.out)
  have h2 : ((a : Int) + n != (s.size : Int)) = false := by simp; omega
  have hw : IntKind.i64.wrap ((a : Int) + n) = (a : Int) + n := IntWalk.i64_in _ (by omega)
  clear hv tb h
  have e1 : Int.tdiv (b0 : Int) 64 = (b0 : Int) / 64 := Int.tdiv_eq_ediv_of_nonneg (by omega)
  have e3 : Int.tmod (b0 : Int) 32 = (b0 : Int) % 32 := Int.tmod_eq_emod_of_nonneg (by omega)
  have e4 : Int.tdiv (b0 : Int) 32 = (b0 : Int) / 32 := Int.tdiv_eq_ediv_of_nonneg (by omega)
  have e5 : Int.tmod ((b0 : Int) / 32) 2 = (b0 : Int) / 32 % 2 := Int.tmod_eq_emod_of_nonneg (by omega)
  have e6 : ((b0 : Int) / 32 % 2 == 1) = false := by simp; omega
  go_enter Try.func41, Try.ntmps41
  go_wp2_with (go_at_call 43; refine (HH.out _).mono ?_; rintro e w' ⟨rfl, nq, rfl⟩)
  go_region
  go_wp2_with fail
  refine bodyPost_ret (v := .tuple #[.agg #[.int .i64 ((b0 : Int) / 64), .bool false, .int .i64 ((b0 : Int) % 32), .string (s.extract a s.size), .slice none 0 0], .int .i64 0]) (by simp [results, Try.results41, go_sem]) rfl ⟨?_, _, rfl, ?_⟩
  · exact (below_cells (below_drewN ((Below.refl _ _).alloc (Nat.le_refl _) _) _) _ _ _ _ _).alloc (by simp) _
  · exact tlAt_flat b0 hb0 (str_eq (by rw [extract_list, List.take_of_length_le (by rw [List.length_drop, len_size]; omega)])) (by rw [ByteArray.size_extract]; unfold maxLen; omega)

end Go.Proofs.Ytipphdadibdifaa
