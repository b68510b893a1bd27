/- Contracts of ber.OfNumber, ber.OfBool, ber.Bool. -/
import Derived.Test.YtipphdadibdifaaRNumber
import Derived.Test.YtipphdadibdifaaRefFrame
import Derived.Test.YtipphdadibdifaaAppend
import Derived.Test.YtipphdadibdifaaPlainOf
namespace Go.Proofs.Ytipphdadibdifaa
open Go.RowKit
open Go.PlainAid

/-- The cells of a value without values in it. -/
def flat (c g : Int) (b : ByteArray) : Array Value := #[.int .i64 c, .bool false, .int .i64 g, .string b, .slice none 0 0]

theorem ofBool_any (c g : Int) (x : Bool) (w : World) :
    Calls Try.prog 22 #[.int .i64 c, .int .i64 g, .bool x] w fun e w' => e = .returned (.agg (flat c g (if x then ⟨#[255]⟩ else ⟨#[0]⟩))) ∧ Below w.heap.size w w' := by
  cases x with
  | true =>
    go_enter Try.func22, Try.ntmps22
    go_wp2
    exact bodyPost_ret (v := .agg #[.int .i64 c, .bool false, .int .i64 g, .string ⟨#[255]⟩, .slice none 0 0]) (by simp [results, Try.results22, go_sem]) rfl ⟨rfl, ((Below.refl _ _).alloc (Nat.le_refl _) _).alloc (by simp) _⟩
  | false =>
    go_enter Try.func22, Try.ntmps22
    go_wp2
    exact bodyPost_ret (v := .agg #[.int .i64 c, .bool false, .int .i64 g, .string ⟨#[0]⟩, .slice none 0 0]) (by simp [results, Try.results22, go_sem]) rfl ⟨rfl, ((Below.refl _ _).alloc (Nat.le_refl _) _).alloc (by simp) _⟩

/-- Bool's answer: the truth, and the error. -/
def boolOf (k : Bool) (b : ByteArray) : Bool × Int := if k then (false, 4) else if b.toList == [0] then (false, 0) else if b.toList == [255] then (true, 0) else (false, 4)

theorem bool_any (c g : Int) (k : Bool) (b : ByteArray) (A : Option Addr) (n cap : Nat) (w : World) :
    Calls Try.prog 23 #[.agg #[.int .i64 c, .bool k, .int .i64 g, .string b, .slice A n cap]] w fun e w' => e = .returned (.tuple #[.bool (boolOf k b).1, .int .i64 (boolOf k b).2]) ∧ Below w.heap.size w w' := by
  unfold boolOf
  cases k with
  | true =>
    go_enter Try.func23, Try.ntmps23
    go_wp2
    go_ret2
    exact ⟨rfl, (Below.refl _ _).alloc (Nat.le_refl _) _⟩
  | false =>
    rw [if_neg (by simp)]
    cases h1 : b.toList == [0] with
    | true =>
      rw [if_pos rfl]
      go_enter Try.func23, Try.ntmps23
      go_wp2
      go_ret2
      exact ⟨rfl, (Below.refl _ _).alloc (Nat.le_refl _) _⟩
    | false =>
      rw [if_neg (by simp)]
      cases h2 : b.toList == [255] with
      | true =>
        rw [if_pos rfl]
        go_enter Try.func23, Try.ntmps23
        go_wp2
        go_ret2
        exact ⟨rfl, (Below.refl _ _).alloc (Nat.le_refl _) _⟩
      | false =>
        rw [if_neg (by simp)]
        go_enter Try.func23, Try.ntmps23
        go_wp2
        go_ret2
        exact ⟨rfl, (Below.refl _ _).alloc (Nat.le_refl _) _⟩

/-- how long a slot's slice is. -/
def sliceLen : Value → Nat | .slice _ n _ => n | _ => 0

theorem u8s_one (l : List UInt8) : ∀ u ∈ u8s l, u.oneCell' = true := by
  intro u hu
  obtain ⟨x, _, rfl⟩ := List.mem_map.1 hu
  rfl

theorem u8s_low (m : Int) : u8s [PB.low m] = [.int .u8 (m % 256)] := by
  have := PB.low_val m
  simp [u8s]
  omega

theorem ofAt_first (n : Int) (w : World) : ((w.alloc (.cells (flat 0 0 ⟨#[]⟩) 44)).alloc (.cells #[.int .u8 (n % 256)] 5)).ownsRow (w.heap.size + 1) 5 1 (.slice (some ⟨w.heap.size + 1, 0, none⟩) 1 1) [PB.low n].length (u8s [PB.low n]) ∧
    Bk ((w.alloc (.cells (flat 0 0 ⟨#[]⟩) 44)).alloc (.cells #[.int .u8 (n % 256)] 5)) w.heap.size 44 (flat 0 0 ⟨#[]⟩) ∧
    Below w.heap.size w ((w.alloc (.cells (flat 0 0 ⟨#[]⟩) 44)).alloc (.cells #[.int .u8 (n % 256)] 5)) := by
  refine ⟨?_, (Bk.new w _ _).alloc _, ((Below.refl _ _).alloc (Nat.le_refl _) _).alloc (by simp) _⟩
  rw [u8s_low]
  have h := World.ownsRow_lit (base := w.heap.size + 1) (e := 5) (size := 1) (w.alloc (.cells (flat 0 0 ⟨#[]⟩) 44)) #[.int .u8 (n % 256)] 1 (by simp) (by unfold maxLen; omega) rfl
  simpa using h

theorem below_five {w wr : World} (h : Below w.heap.size w wr) (c g : Int) (b : ByteArray) :
    Below w.heap.size w (((((wr.setCell ⟨w.heap.size, 0, none⟩ (.int .i64 c)).setCell ⟨w.heap.size, 1, none⟩ (.bool false)).setCell ⟨w.heap.size, 2, none⟩ (.int .i64 g)).setCell ⟨w.heap.size, 3, none⟩ (.string b)).setCell ⟨w.heap.size, 4, none⟩ (.slice none 0 0)) :=
  ((((h.setCell (Nat.le_refl _) _).setCell (Nat.le_refl _) _).setCell (Nat.le_refl _) _).setCell (Nat.le_refl _) _).setCell (Nat.le_refl _) _

theorem ofAt_round {n m : Int} {L : List UInt8} {w wr w5 : World} {q cap : Nat} {v5 : Value} (h : PB.OfAt n L m) (hL : L.length ≤ 8) (hn1 : -9223372036854775808 ≤ n) (hn2 : n ≤ 9223372036854775807) (hs : ¬ PB.enough L m)
    (hown : w5.ownsRow (w.heap.size + 1) 5 1 v5 (1 + L.length) ([.int .u8 (m % 256)] ++ u8s L)) (hgr : (wr.alloc (.cells #[.int .u8 (m % 256)] 5)).grownBy w5 (Value.slice (some ⟨wr.heap.size, 0, none⟩) 1 1).ownBlock)
    (hbk : Bk wr w.heap.size 44 (flat 0 0 ⟨#[]⟩)) (hbel : Below w.heap.size w wr) :
    PB.OfAt n (PB.low m :: L) (m / 256) ∧ w5.ownsRow (w.heap.size + 1) 5 1 v5 (PB.low m :: L).length (u8s (PB.low m :: L)) ∧ Bk w5 w.heap.size 44 (flat 0 0 ⟨#[]⟩) ∧ Below w.heap.size w w5 ∧
      9 - sliceLen v5 < 9 - sliceLen (.slice (some ⟨q, 0, none⟩) L.length cap) := by
  have hlt := hbk.lt
  refine ⟨h.next hn1 hn2 hs, ?_, ?_, ?_, ?_⟩
  · rw [show PB.low m :: L = [PB.low m] ++ L from rfl, u8s_app, u8s_low, List.length_append, List.length_singleton]
    exact hown
  · exact (hgr.block w.heap.size (by simp; omega) (by intro e; injection e with e; simp at e; omega)).trans (hbk.alloc _)
  · exact (hbel.alloc hbel.size _).grown hgr (by have := hbel.size; simp; omega) (fun k hk => by injection hk with hk; have := hbel.size; simp at hk; omega)
  · obtain ⟨A, c, rfl, _⟩ := own_slice hown
    simp [sliceLen]
    omega

set_option maxRecDepth 100000 in
set_option maxHeartbeats 1000000 in
theorem ofNumber_any (c g n : Int) (w : World) (hn1 : -9223372036854775808 ≤ n) (hn2 : n ≤ 9223372036854775807) :
    Calls Try.prog 20 #[.int .i64 c, .int .i64 g, .int .i64 n] w fun e w' => (∃ b : ByteArray, e = .returned (.agg (flat c g b)) ∧ b.size ≤ 8 ∧ PB.sgn b.data.toList = n ∧ PB.isNum false b.data.toList = true ∧ b.data.toList = PB.ofNum n) ∧ Below w.heap.size w w' := by
  obtain ⟨i0, hi, hz0, hz1, hz2⟩ := info_parts info_u8
  go_enter Try.func20, Try.ntmps20
  go_wp2_with fail
  go_loopw [7, 8] (fun v i wr => ∃ (L : List UInt8) (m : Int), i = .int .i64 m ∧ Hid (PB.OfAt n L m) ∧ -36028797018963968 ≤ m ∧ m ≤ 36028797018963968 ∧ wr.ownsRow (w.heap.size + 1) 5 1 v L.length (u8s L) ∧ Bk wr w.heap.size 44 (flat 0 0 ⟨#[]⟩) ∧ Below w.heap.size w wr) (fun v _ _ => 9 - sliceLen v)
  case atStart => exact ⟨[PB.low n], _, rfl, PB.OfAt.start n, by omega, by omega, ofAt_first n w⟩
  case round =>
    obtain ⟨L, m, rfl, HO, hm1, hm2, hown, hbk, hbel⟩ := hrel
    have hL := HO.out.1
    have hL8 := HO.out.2.1
    have hws := hbel.size
    have hwlt := hbk.lt
    obtain ⟨q, cap, rfl, hq1, hq2⟩ := hown.form hL
    have hc0 := own_u8_cell hown 0 hL
    have hb0 := PB.byt_lt L 0
    have HLIT := Lib.hid (World.ownsRow_lit (base := w.heap.size + 1) (e := 5) (size := 1) wr #[.int .u8 (m % 256)] 1 (by omega) (by unfold maxLen; omega) rfl)
    have HSL := Lib.hid (Sl.of_own (hown.alloc (.cells #[.int .u8 (m % 256)] 5)))
    have hen := PB.enough.eq_1 L m
    generalize PB.byt L 0 = b0 at hc0 hb0 hen
    by_cases hm0 : m = 0
    · by_cases h128 : b0 < 128
      · have hstop : PB.enough L m := by rw [hen]; omega
        have q1 : (m == 0) = true := by simp; omega
        have q2 : decide ((b0 : Int) < 128) = true := by simp; omega
        clear hm0 h128 hen
        all_goals
          obtain ⟨hd1, hd2, hd4⟩ := HO.out.done hstop
          have hconv := conv_own hown
          have hd3 := HO.out.2.1
          have HD1 := Lib.hid hd1
          have HD2 := Lib.hid hd2
          have HD4 := Lib.hid hd4
          have z0 := hbk.cell 0
          have z1 := hbk.cell 1
          have z2 := hbk.cell 2
          have z3 := hbk.cell 3
          have z4 := hbk.cell 4
          have y0 := hbk.frozen 0
          have y1 := hbk.frozen 1
          have y2 := hbk.frozen 2
          have y3 := hbk.frozen 3
          have y4 := hbk.frozen 4
          simp [flat] at z0 z1 z2 z3 z4
          clear hd1 hd2 hd4
          go_wp2_with fail
          refine bodyPost_ret (v := .agg (flat c g ⟨L.toArray⟩)) ?_ rfl ⟨⟨⟨L.toArray⟩, rfl, hL8, HD1.out, HD2.out, HD4.out⟩, ?_⟩
          · simp [results, Try.results20, go_sem, flat, z0, z1, z2, z3, z4]
          · exact below_five hbel c g ⟨L.toArray⟩
      · have hstop : ¬ PB.enough L m := by rw [hen]; omega
        have q1 : (m == 0) = true := by simp; omega
        have q2 : decide ((b0 : Int) < 128) = false := by simp; omega
        have q3 : (m == -1) = false := by simp; omega
        clear hm0 h128 hen
        all_goals
          go_wp2_with (at_builtin; refine wpList_append_sl _ rfl (.tmp 37) (.tmp 38) 27 rfl (w.heap.size + 1) 5 i0 (.int .u8 0) 1 Try.underlying27 hi hz0 hz1 hz2 rfl (.slice (some ⟨wr.heap.size, 0, none⟩) 1 1) 1 [.int .u8 (m % 256)] rfl HLIT.out (some ⟨q, 0, none⟩) L.length cap (u8s L) (u8s_len L) rfl HSL.out (u8s_one L) (by unfold maxLen; omega) (by omega) (by simp; omega) ?_; intro v5 w5 hown5 hgrow5 hat5)
          have hnx := ofAt_round (q := q) (cap := cap) HO.out (by omega) hn1 hn2 hstop hown5 hgrow5 hbk hbel
          clear hown5 hgrow5 hat5 hbk hbel hown
          obtain ⟨hx1, hx2, hx3, hx4, hx5⟩ := hnx
          have HO5 := Lib.hid hx1
          clear hx1
          go_roundw
          case rel => exact ⟨_, _, rfl, HO5, by omega, by omega, hx2, hx3, hx4⟩
          case measure => exact hx5
    · by_cases hm1' : m = -1
      · by_cases h128 : b0 < 128
        · have hstop : ¬ PB.enough L m := by rw [hen]; omega
          have q1 : (m == 0) = false := by simp; omega
          have q2 : decide ((128 : Int) ≤ b0) = false := by simp; omega
          have q3 : (m == -1) = true := by simp; omega
          clear hm0 h128 hen hm1'
          go_wp2_with (at_builtin; refine wpList_append_sl _ rfl (.tmp 37) (.tmp 38) 27 rfl (w.heap.size + 1) 5 i0 (.int .u8 0) 1 Try.underlying27 hi hz0 hz1 hz2 rfl (.slice (some ⟨wr.heap.size, 0, none⟩) 1 1) 1 [.int .u8 (m % 256)] rfl HLIT.out (some ⟨q, 0, none⟩) L.length cap (u8s L) (u8s_len L) rfl HSL.out (u8s_one L) (by unfold maxLen; omega) (by omega) (by simp; omega) ?_; intro v5 w5 hown5 hgrow5 hat5)
          have hnx := ofAt_round (q := q) (cap := cap) HO.out (by omega) hn1 hn2 hstop hown5 hgrow5 hbk hbel
          clear hown5 hgrow5 hat5 hbk hbel hown
          obtain ⟨hx1, hx2, hx3, hx4, hx5⟩ := hnx
          have HO5 := Lib.hid hx1
          clear hx1
          go_roundw
          case rel => exact ⟨_, _, rfl, HO5, by omega, by omega, hx2, hx3, hx4⟩
          case measure => exact hx5
        · have hstop : PB.enough L m := by rw [hen]; omega
          have q1 : (m == 0) = false := by simp; omega
          have q2 : decide ((128 : Int) ≤ b0) = true := by simp; omega
          have q3 : (m == -1) = true := by simp; omega
          clear hm0 h128 hen hm1'
          obtain ⟨hd1, hd2, hd4⟩ := HO.out.done hstop
          have hconv := conv_own hown
          have hd3 := HO.out.2.1
          have HD1 := Lib.hid hd1
          have HD2 := Lib.hid hd2
          have HD4 := Lib.hid hd4
          have z0 := hbk.cell 0
          have z1 := hbk.cell 1
          have z2 := hbk.cell 2
          have z3 := hbk.cell 3
          have z4 := hbk.cell 4
          have y0 := hbk.frozen 0
          have y1 := hbk.frozen 1
          have y2 := hbk.frozen 2
          have y3 := hbk.frozen 3
          have y4 := hbk.frozen 4
          simp [flat] at z0 z1 z2 z3 z4
          clear hd1 hd2 hd4
          go_wp2_with fail
          refine bodyPost_ret (v := .agg (flat c g ⟨L.toArray⟩)) ?_ rfl ⟨⟨⟨L.toArray⟩, rfl, hL8, HD1.out, HD2.out, HD4.out⟩, ?_⟩
          · simp [results, Try.results20, go_sem, flat, z0, z1, z2, z3, z4]
          · exact below_five hbel c g ⟨L.toArray⟩
      · have hstop : ¬ PB.enough L m := by rw [hen]; omega
        have q1 : (m == 0) = false := by simp; omega
        have q3 : (m == -1) = false := by simp; omega
        clear hm0 hen hm1'
        all_goals
          go_wp2_with (at_builtin; refine wpList_append_sl _ rfl (.tmp 37) (.tmp 38) 27 rfl (w.heap.size + 1) 5 i0 (.int .u8 0) 1 Try.underlying27 hi hz0 hz1 hz2 rfl (.slice (some ⟨wr.heap.size, 0, none⟩) 1 1) 1 [.int .u8 (m % 256)] rfl HLIT.out (some ⟨q, 0, none⟩) L.length cap (u8s L) (u8s_len L) rfl HSL.out (u8s_one L) (by unfold maxLen; omega) (by omega) (by simp; omega) ?_; intro v5 w5 hown5 hgrow5 hat5)
          have hnx := ofAt_round (q := q) (cap := cap) HO.out (by omega) hn1 hn2 hstop hown5 hgrow5 hbk hbel
          clear hown5 hgrow5 hat5 hbk hbel hown
          obtain ⟨hx1, hx2, hx3, hx4, hx5⟩ := hnx
          have HO5 := Lib.hid hx1
          clear hx1
          go_roundw
          case rel => exact ⟨_, _, rfl, HO5, by omega, by omega, hx2, hx3, hx4⟩
          case measure => exact hx5
end Go.Proofs.Ytipphdadibdifaa
