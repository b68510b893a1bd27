/- Contract of ber.length. -/
import Derived.Test.YtipphdadibdifaaOfNumber
namespace Go.Proofs.Ytipphdadibdifaa
open Go.RowKit
open Go.PlainAid

namespace PB
/-- a length's bytes. -/
def lenB (n : Nat) : List UInt8 :=
  if n < 128 then [UInt8.ofNat n] else if n < 256 then [129, UInt8.ofNat n] else if n < 65536 then [130, UInt8.ofNat (n / 256), UInt8.ofNat (n % 256)] else
  [131, UInt8.ofNat (n / 65536), UInt8.ofNat (n / 256 % 256), UInt8.ofNat (n % 256)]

/-- where length's loop stands. -/
def LenAt (n : Nat) (l : List UInt8) (m : Nat) : Prop :=
  (l = [] ∧ m = n) ∨ (l = [low n] ∧ m = n / 256) ∨ (l = [low (n / 256 : Nat), low n] ∧ m = 0 ∧ 256 ≤ n)

theorem low_nat (n : Nat) : low (n : Int) = UInt8.ofNat (n % 256) := by
  unfold low
  rw [show ((n : Int) % 256).toNat = n % 256 by omega]

theorem lenAt_next {n : Nat} {l : List UInt8} {m : Nat} (h : LenAt n l m) (hn : 128 ≤ n) (hn2 : n ≤ 8192) (hm : 0 < m) : LenAt n (low (m : Int) :: l) (m / 256) ∧ (low (m : Int) :: l).length ≤ 2 ∧ m / 256 < m := by
  rcases h with ⟨rfl, rfl⟩ | ⟨rfl, rfl⟩ | ⟨rfl, rfl, _⟩
  · exact ⟨Or.inr (Or.inl ⟨rfl, rfl⟩), by simp, by omega⟩
  · exact ⟨Or.inr (Or.inr ⟨rfl, by omega, by omega⟩), by simp, by omega⟩
  · omega

theorem ofNat_mod (n : Nat) : UInt8.ofNat (n % 256) = UInt8.ofNat n := by
  apply UInt8.toNat_inj.1
  rw [UInt8.toNat_ofNat', UInt8.toNat_ofNat']
  omega

theorem lenAt_end {n : Nat} {l : List UInt8} (h : LenAt n l 0) (hn : 128 ≤ n) (hn6 : n < 65536) : (l = [low n] ∧ lenB n = 129 :: [low (n : Int)]) ∨ (l = [low (n / 256 : Nat), low n] ∧ lenB n = 130 :: [low ((n / 256 : Nat) : Int), low (n : Int)]) := by
  rcases h with ⟨rfl, h⟩ | ⟨rfl, h⟩ | ⟨rfl, _, h⟩
  · omega
  · left
    refine ⟨rfl, ?_⟩
    unfold lenB
    rw [if_neg (by omega), if_pos (by omega), low_nat, ofNat_mod]
  · right
    refine ⟨rfl, ?_⟩
    unfold lenB
    rw [if_neg (by omega), if_neg (by omega)]
    have e1 : low ((n / 256 : Nat) : Int) = UInt8.ofNat (n / 256) := by rw [low_nat, ofNat_mod]
    have e2 : low (n : Int) = UInt8.ofNat (n % 256) := low_nat n
    rw [e1, e2, if_pos hn6]
end PB

/-- A call that tells a string and makes memory alone. -/
def TellsS (s : ByteArray) (w : World) (e : Ending) (w' : World) : Prop := e = .returned (.string s) ∧ Below w.heap.size w w'

theorem tellsS_of {s s' : ByteArray} {w w' : World} (h : s' = s) (hb : Below w.heap.size w w') : TellsS s w (.returned (.string s')) w' := by
  subst h
  exact ⟨rfl, hb⟩

set_option maxRecDepth 100000 in
theorem length_small (n : Nat) (w : World) (hn : n < 128) : Calls Try.prog 47 #[.int .i64 n] w (TellsS ⟨(PB.lenB n).toArray⟩ w) := by
  have q1 : decide ((n : Int) < 128) = true := by simp; omega
  have hown := World.ownsRow_lit (base := 0) (e := 5) (size := 1) w #[.int .u8 n] 1 (Nat.zero_le _) (by unfold maxLen; omega) rfl
  have e : (#[Value.int .u8 n]).toList = u8s [UInt8.ofNat n] := by simp [u8s]; omega
  rw [e] at hown
  have hconv := conv_own (L := [UInt8.ofNat n]) hown
  have HE := Lib.hid (show PB.lenB n = [UInt8.ofNat n] by unfold PB.lenB; rw [if_pos hn])
  clear hown e
  go_enter Try.func47, Try.ntmps47
  go_wp2_with fail
  go_ret
  exact tellsS_of (by rw [HE.out]) ((Below.refl _ _).alloc (Nat.le_refl _) _)

set_option maxRecDepth 100000 in
set_option maxHeartbeats 1000000 in
theorem length_large (n : Nat) (w : World) (hn : 128 ≤ n) (hn2 : n ≤ 8192) : Calls Try.prog 47 #[.int .i64 n] w (TellsS ⟨(PB.lenB n).toArray⟩ w) := by
  obtain ⟨i0, hi, hz0, hz1, hz2⟩ := info_parts info_u8
  have q1 : decide ((n : Int) < 128) = false := by simp; omega
  go_enter Try.func47, Try.ntmps47
  go_wp2_with fail
  go_loopw [3, 4] (fun v i wr => ∃ (L : List UInt8) (m : Nat), i = .int .i64 m ∧ Hid (PB.LenAt n L m) ∧ m ≤ 8192 ∧ L.length ≤ 2 ∧ wr.ownsRow w.heap.size 5 1 v L.length (u8s L) ∧ Below w.heap.size w wr) (fun _ i _ => (intOf i).toNat)
  case atStart => exact ⟨[], n, rfl, Or.inl ⟨rfl, rfl⟩, hn2, by simp, World.ownsRow_nil _ _ _ _, Below.refl _ _⟩
  case round =>
    obtain ⟨L, m, rfl, HL, hm, hL2, hown, hbel⟩ := hrel
    have hws := hbel.size
    obtain ⟨A, cap, rfl, hcp, -, -, hsl, -⟩ := own_slice hown
    by_cases hm0 : 0 < m
    · have q2 : decide ((0 : Int) < m) = true := by simp; omega
      have HLIT := Lib.hid (World.ownsRow_lit (base := w.heap.size) (e := 5) (size := 1) wr #[.int .u8 ((m : Int) % 256)] 1 (by omega) (by unfold maxLen; omega) rfl)
      have HSL := Lib.hid (hsl.below ((Below.refl _ _).alloc (Nat.le_refl _) (.cells #[.int .u8 ((m : Int) % 256)] 5)))
      go_wp2_with (at_builtin; refine wpList_append_sl _ rfl (.tmp 18) (.tmp 19) 27 rfl w.heap.size 5 i0 (.int .u8 0) 1 Try.underlying27 hi hz0 hz1 hz2 rfl (.slice (some ⟨wr.heap.size, 0, none⟩) 1 1) 1 [.int .u8 ((m : Int) % 256)] rfl HLIT.out A L.length cap (u8s L) (u8s_len L) rfl HSL.out (u8s_one L) (by unfold maxLen; omega) (by omega) (by simp; omega) ?_; intro v5 w5 hown5 hgrow5 hat5)
      obtain ⟨hx1, hx2, hx3⟩ := PB.lenAt_next HL.out hn hn2 hm0
      have hown6 : w5.ownsRow w.heap.size 5 1 v5 (PB.low (m : Int) :: L).length (u8s (PB.low (m : Int) :: L)) := by
        rw [show PB.low (m : Int) :: L = [PB.low (m : Int)] ++ L from rfl, u8s_app, u8s_low, List.length_append, List.length_singleton]
        exact hown5
      have hb5 : Below w.heap.size w w5 := (hbel.alloc hws _).grown hgrow5 (by simp; omega) (fun k hk => by injection hk with hk; simp at hk; omega)
      have HX1 := Lib.hid hx1
      clear hown5 hgrow5 hat5 hx1
      go_roundw
      case rel => exact ⟨_, m / 256, by go_num, HX1, by omega, hx2, hown6, hb5⟩
      case measure => simp [intOf]; omega
    · have q2 : decide ((0 : Int) < m) = false := by simp; omega
      obtain rfl : m = 0 := by omega
      have hcs := PB.lenAt_end HL.out hn (by omega)
      rcases hcs with ⟨rfl, he⟩ | ⟨rfl, he⟩
      · have HE := Lib.hid he
        clear he HL hm0 hL2
        have HLIT := Lib.hid (World.ownsRow_lit (base := w.heap.size) (e := 5) (size := 1) wr #[.int .u8 129] 1 (by omega) (by unfold maxLen; omega) rfl)
        have HSL := Lib.hid (hsl.below ((Below.refl _ _).alloc (Nat.le_refl _) (.cells #[.int .u8 129] 5)))
        have hor : bits BinOp.or IntKind.i64 128 1 = 129 := by decide
        have hconv : ∀ (W : World) (v : Value) (b0 : Nat), W.ownsRow b0 5 1 v (1 + 1) ([.int .u8 129] ++ u8s [PB.low (n : Int)]) → (convert 27 9 v).run Try.prog W = .ok (.string ⟨(129 :: [PB.low (n : Int)]).toArray⟩) W := by
          intro W v b0 ho
          obtain ⟨g, cp, rfl, _⟩ := ho.form (by omega)
          exact conv_own (L := 129 :: [PB.low (n : Int)]) ho
        have HC := Lib.hid hconv
        clear hconv
        simp only [List.length_cons, List.length_nil, Nat.zero_add, Nat.reduceAdd] at *
        go_wp2_with (at_builtin; refine wpList_append_sl _ rfl (.tmp 25) (.tmp 26) 27 rfl w.heap.size 5 i0 (.int .u8 0) 1 Try.underlying27 hi hz0 hz1 hz2 rfl (.slice (some ⟨wr.heap.size, 0, none⟩) 1 1) 1 [.int .u8 129] rfl HLIT.out A 1 cap (u8s [PB.low (n : Int)]) rfl rfl HSL.out (u8s_one _) (by unfold maxLen; omega) (by omega) (by simp; omega) ?_; intro v5 w5 hown5 hgrow5 hat5; have hcv := HC.out _ _ _ hown5; have hb5 : Below w.heap.size w w5 := (hbel.alloc hws _).grown hgrow5 (by simp; omega) (fun k hk => by injection hk with hk; simp at hk; omega); clear hown5 hgrow5 hat5)
        go_ret
        exact tellsS_of (by rw [HE.out]) hb5
      · have HE := Lib.hid he
        clear he HL hm0 hL2
        generalize PB.low ((n / 256 : Nat) : Int) = x at *
        generalize PB.low (n : Int) = y at *
        have HLIT := Lib.hid (World.ownsRow_lit (base := w.heap.size) (e := 5) (size := 1) wr #[.int .u8 130] 1 (by omega) (by unfold maxLen; omega) rfl)
        have HSL := Lib.hid (hsl.below ((Below.refl _ _).alloc (Nat.le_refl _) (.cells #[.int .u8 130] 5)))
        have hor : bits BinOp.or IntKind.i64 128 2 = 130 := by decide
        have hconv : ∀ (W : World) (v : Value) (b0 : Nat), W.ownsRow b0 5 1 v (1 + 2) ([.int .u8 130] ++ u8s [x, y]) → (convert 27 9 v).run Try.prog W = .ok (.string ⟨(130 :: [x, y]).toArray⟩) W := by
          intro W v b0 ho
          obtain ⟨g, cp, rfl, _⟩ := ho.form (by omega)
          exact conv_own (L := 130 :: [x, y]) ho
        have HC := Lib.hid hconv
        clear hconv
        simp only [List.length_cons, List.length_nil, Nat.zero_add, Nat.reduceAdd] at *
        go_wp2_with (at_builtin; refine wpList_append_sl _ rfl (.tmp 25) (.tmp 26) 27 rfl w.heap.size 5 i0 (.int .u8 0) 1 Try.underlying27 hi hz0 hz1 hz2 rfl (.slice (some ⟨wr.heap.size, 0, none⟩) 1 1) 1 [.int .u8 130] rfl HLIT.out A 2 cap (u8s [x, y]) rfl rfl HSL.out (u8s_one _) (by unfold maxLen; omega) (by omega) (by simp; omega) ?_; intro v5 w5 hown5 hgrow5 hat5; have hcv := HC.out _ _ _ hown5; have hb5 : Below w.heap.size w w5 := (hbel.alloc hws _).grown hgrow5 (by simp; omega) (fun k hk => by injection hk with hk; simp at hk; omega); clear hown5 hgrow5 hat5)
        go_ret
        exact tellsS_of (by rw [HE.out]) hb5
end Go.Proofs.Ytipphdadibdifaa
