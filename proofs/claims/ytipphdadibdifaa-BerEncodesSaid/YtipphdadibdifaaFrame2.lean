/- Contracts: frame.New, Rest, Broken, and all of them at nil; the reference's Same of two lists of strings. -/
import Derived.Test.YtipphdadibdifaaFeed
namespace Go.Proofs.Ytipphdadibdifaa
open Go.RowKit
open Go.PlainAid

theorem new_any (w : World) : Calls Try.prog 11 #[] w fun e w' => e = .returned (.pointer (some ⟨w.heap.size, 0, none⟩)) ∧ w.alloc (.cells #[.string ByteArray.empty, .bool false] 63) = w' := by
  go_enter Try.func11, Try.ntmps11
  go_wp2
  go_ret
  exact ⟨rfl, rfl⟩

theorem rest_any (w : World) (b : Nat) (r : ByteArray) (x : Bool) (hb : Bk w b 63 #[.string r, .bool x]) :
    Calls Try.prog 15 #[.pointer (some ⟨b, 0, none⟩)] w fun e w' => e = .returned (.int .i64 r.size) ∧ w = w' := by
  have hc0 := hb.cell 0
  simp at hc0
  clear hb
  go_enter Try.func15, Try.ntmps15
  go_wp2
  go_ret
  exact ⟨rfl, rfl⟩

theorem broken_any (w : World) (b : Nat) (r : ByteArray) (x : Bool) (hb : Bk w b 63 #[.string r, .bool x]) :
    Calls Try.prog 16 #[.pointer (some ⟨b, 0, none⟩)] w fun e w' => e = .returned (.bool x) ∧ w = w' := by
  have hc0 := hb.cell 1
  simp at hc0
  clear hb
  go_enter Try.func16, Try.ntmps16
  go_wp2
  go_ret
  exact ⟨rfl, rfl⟩

theorem rest_nil (w : World) : Calls Try.prog 15 #[.pointer none] w fun e w' => e = .returned (.int .i64 0) ∧ w = w' := by
  go_enter Try.func15, Try.ntmps15
  go_wp2
  go_ret
  exact ⟨rfl, rfl⟩

theorem broken_nil (w : World) : Calls Try.prog 16 #[.pointer none] w fun e w' => e = .returned (.bool false) ∧ w = w' := by
  go_enter Try.func16, Try.ntmps16
  go_wp2
  go_ret
  exact ⟨rfl, rfl⟩

theorem feed_nil (w : World) (s : ByteArray) : Calls Try.prog 12 #[.pointer none, .string s] w fun e w' => e = .returned (.tuple #[.slice none 0 0, .int .i64 2]) ∧ w = w' := by
  go_enter Try.func12, Try.ntmps12
  go_wp2
  go_ret2
  exact ⟨rfl, rfl⟩

theorem feed_over (w : World) (b : Nat) (r s : ByteArray) (hb : Bk w b 63 #[.string r, .bool true]) :
    Calls Try.prog 12 #[.pointer (some ⟨b, 0, none⟩), .string s] w fun e w' => e = .returned (.tuple #[.slice none 0 0, .int .i64 12]) ∧ w = w' := by
  have hc0 := hb.cell 1
  simp at hc0
  clear hb
  go_enter Try.func12, Try.ntmps12
  go_wp2
  go_ret2
  exact ⟨rfl, rfl⟩

/-- A call that tells a truth and leaves memory as it is. -/
def Says (x : Bool) (w : World) (e : Ending) (w' : World) : Prop := e = .returned (.bool x) ∧ ∃ n, w' = w.drewN n

theorem says_of {x b : Bool} {w w' : World} (h : x = b) (hw : ∃ n, w' = w.drewN n) : Says x w (.returned (.bool b)) w' := by
  subst h
  exact ⟨rfl, hw⟩

theorem take_both (ss tt : List ByteArray) (k : Nat) (h1 : k < ss.length) (h2 : k < tt.length) (h : ss.take k = tt.take k) (he : ss[k] = tt[k]) : ss.take (k + 1) = tt.take (k + 1) := by
  rw [List.take_succ_eq_append_getElem h1, List.take_succ_eq_append_getElem h2, h, he]
theorem differ_at (ss tt : List ByteArray) (k : Nat) (h1 : k < ss.length) (h2 : k < tt.length) (he : ¬ ss[k] = tt[k]) : ¬ ss = tt := by
  rintro rfl
  exact he rfl
theorem all_same (ss tt : List ByteArray) (k : Nat) (h1 : ss.length ≤ k) (hl : ss.length = tt.length) (h : ss.take k = tt.take k) : ss = tt := by
  rw [List.take_of_length_le h1, List.take_of_length_le (by omega)] at h
  exact h
theorem toList_ne {x y : ByteArray} (h : ¬ x = y) : (x.toList == y.toList) = false := by
  rw [ByteArray.toList_eq, ByteArray.toList_eq]
  have : ¬ x.data.toList = y.data.toList := fun e => h (by cases x; cases y; simp at e; rw [e])
  simpa using this

set_option maxRecDepth 100000 in
theorem same_any (w : World) (A B : Option Addr) (c d : Nat) (ss tt : List ByteArray) (hs : ss.length ≤ 1000000) (_ht : tt.length ≤ 1000000)
    (ha : Sl w A (ss.map Value.string)) (hb : Sl w B (tt.map Value.string)) :
    Calls Try.prog 14 #[.slice A ss.length c, .slice B tt.length d] w (Says (decide (ss = tt)) w) := by
  by_cases hl : ss.length = tt.length
  · have h1 : ((ss.length : Int) != tt.length) = false := by simp [hl]
    have HL := Lib.hid hl
    clear hl
    go_enter Try.func14, Try.ntmps14
    go_wp2_with fail
    go_loopw [5] (fun i wr => ∃ k : Nat, k ≤ ss.length ∧ i = .int .i64 k ∧ Hid (ss.take k = tt.take k) ∧ ∃ nq, wr = w.drewN nq) (fun i _ => ss.length - (intOf i).toNat)
    case atStart => exact ⟨0, Nat.zero_le _, rfl, rfl, 0, rfl⟩
    case round =>
      obtain ⟨k, hk, rfl, HT, nq, rfl⟩ := hrel
      by_cases hlt : k < ss.length
      · have hlt2 : k < tt.length := by rw [← HL.out]; exact hlt
        obtain ⟨x, hx⟩ : ∃ x, x = ss[k] := ⟨_, rfl⟩
        obtain ⟨y, hy⟩ : ∃ y, y = tt[k] := ⟨_, rfl⟩
        obtain ⟨b1, o1, rfl, hb1, hc1⟩ := ha k (.string x) (by rw [List.getElem?_map, List.getElem?_eq_getElem hlt, hx]; rfl)
        obtain ⟨b2, o2, rfl, hb2, hc2⟩ := hb k (.string y) (by rw [List.getElem?_map, List.getElem?_eq_getElem hlt2, hy]; rfl)
        have HX := Lib.hid hx
        have HY := Lib.hid hy
        clear hx hy
        by_cases hxy : x = y
        · have h5 : (x.toList == y.toList) = true := by simp [hxy]
          have HE := Lib.hid (take_both ss tt k hlt hlt2 HT.out (by rw [← HX.out, ← HY.out]; exact hxy))
          clear hxy
          go_wp2_with fail
          go_quiet (fail)
          go_wp2_with fail
          go_roundw
          case rel => exact ⟨k + 1, by omega, by go_num, HE, _, rfl⟩
          case measure => simp [intOf]; omega
        · have h5 : (x.toList == y.toList) = false := toList_ne hxy
          have HE := Lib.hid (decide_eq_false (differ_at ss tt k hlt hlt2 (by rw [← HX.out, ← HY.out]; exact hxy)))
          clear hxy
          go_wp2_with fail
          go_quiet (fail)
          go_wp2_with fail
          go_ret
          exact says_of HE.out ⟨_, World.drewN_drewN _ _ _⟩
      · have HE := Lib.hid (decide_eq_true (all_same ss tt k (by omega) HL.out HT.out))
        go_wp2_with fail
        go_ret
        exact says_of HE.out ⟨_, rfl⟩
  · have h1 : ((ss.length : Int) != tt.length) = true := by simp; omega
    have h2 : ¬ ss = tt := fun e => hl (by rw [e])
    have h3 : decide (ss = tt) = false := by simp [h2]
    rw [h3]
    clear hl h2 h3
    go_enter Try.func14, Try.ntmps14
    go_wp2_with fail
    go_ret
    exact ⟨rfl, 0, rfl⟩

end Go.Proofs.Ytipphdadibdifaa
