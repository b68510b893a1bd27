/- Contracts of the reference's Length and Bytes. -/
import Derived.Test.YtipphdadibdifaaEncode3
import Derived.Test.YtipphdadibdifaaRRight
namespace Go.Proofs.Ytipphdadibdifaa
open Go.RowKit
open Go.PlainAid

/-- The call hands back a row of bytes of its own. -/
def RowPost (l : List UInt8) (w : World) (e : Ending) (w' : World) : Prop :=
  ∃ v, e = .returned v ∧ w'.ownsRow w.heap.size 5 1 v l.length (u8s l) ∧ Below w.heap.size w w'

theorem u8s_ofNat {n : Nat} : Value.int .u8 ((UInt8.ofNat n).toNat) = .int .u8 ((n : Int) % 256) := by
  rw [UInt8.toNat_ofNat']
  rfl

set_option maxRecDepth 100000 in
theorem rlength_any (n : Nat) (w : World) (hn : n < 16777216) : Calls Try.prog 48 #[.int .i64 n] w (RowPost (PB.lenB n) w) := by
  unfold PB.lenB
  by_cases h1 : n < 128
  · rw [if_pos h1]
    have hown := World.ownsRow_lit (base := w.heap.size) (e := 5) (size := 1) w #[.int .u8 n] 1 (Nat.le_refl _) (by unfold maxLen; omega) rfl
    have e : (#[Value.int .u8 n]).toList = u8s [UInt8.ofNat n] := by simp [u8s]; omega
    rw [e] at hown
    have HO := Lib.hid hown
    clear hown e
    go_enter Try.func48, Try.ntmps48
    go_wp2_with fail
    go_ret
    exact ⟨_, rfl, HO.out, (Below.refl _ _).alloc (Nat.le_refl _) _⟩
  rw [if_neg h1]
  by_cases h2 : n < 256
  · rw [if_pos h2]
    have hown := World.ownsRow_lit (base := w.heap.size) (e := 5) (size := 1) w #[.int .u8 129, .int .u8 n] 2 (Nat.le_refl _) (by unfold maxLen; omega) rfl
    have e : (#[Value.int .u8 129, Value.int .u8 n]).toList = u8s [129, UInt8.ofNat n] := by simp [u8s]; omega
    rw [e] at hown
    have HO := Lib.hid hown
    clear hown e
    go_enter Try.func48, Try.ntmps48
    go_wp2_with fail
    go_ret
    exact ⟨_, rfl, HO.out, (Below.refl _ _).alloc (Nat.le_refl _) _⟩
  rw [if_neg h2]
  have g0 : 0 ≤ (n : Int) := by omega
  have t1 : decide ((n : Int) < 128) = false := by simp; omega
  have t2 : decide ((n : Int) < 256) = false := by simp; omega
  by_cases h3 : n < 65536
  · rw [if_pos h3]
    have hown := World.ownsRow_lit (base := w.heap.size) (e := 5) (size := 1) w #[.int .u8 130, .int .u8 ((n : Int) / 256), .int .u8 ((n : Int) % 256)] 3 (Nat.le_refl _) (by unfold maxLen; omega) rfl
    have e : (#[Value.int .u8 130, .int .u8 ((n : Int) / 256), .int .u8 ((n : Int) % 256)]).toList = u8s [130, UInt8.ofNat (n / 256), UInt8.ofNat (n % 256)] := by simp [u8s]; omega
    rw [e] at hown
    have HO := Lib.hid hown
    have t3 : decide ((n : Int) < 65536) = true := by simp; omega
    have e0 : 0 ≤ (n : Int) / 256 := by omega
    have e1 : (n : Int) / 256 < 256 := by omega
    have e2 : 0 ≤ (n : Int) % 256 := by omega
    have e3 : (n : Int) % 256 < 256 := by omega
    clear hown e h1 h2 h3 hn
    generalize (n : Int) = z at *
    go_enter Try.func48, Try.ntmps48
    go_wp2_with fail
    go_ret
    exact ⟨_, rfl, HO.out, (Below.refl _ _).alloc (Nat.le_refl _) _⟩
  rw [if_neg h3]
  · have hown := World.ownsRow_lit (base := w.heap.size) (e := 5) (size := 1) w #[.int .u8 131, .int .u8 ((n : Int) / 65536), .int .u8 ((n : Int) / 256 % 256), .int .u8 ((n : Int) % 256)] 4 (Nat.le_refl _) (by unfold maxLen; omega) rfl
    have e : (#[Value.int .u8 131, .int .u8 ((n : Int) / 65536), .int .u8 ((n : Int) / 256 % 256), .int .u8 ((n : Int) % 256)]).toList = u8s [131, UInt8.ofNat (n / 65536), UInt8.ofNat (n / 256 % 256), UInt8.ofNat (n % 256)] := by simp [u8s]; omega
    rw [e] at hown
    have HO := Lib.hid hown
    have t3 : decide ((n : Int) < 65536) = false := by simp; omega
    have e0 : 0 ≤ (n : Int) / 65536 := by omega
    have e1 : (n : Int) / 65536 < 256 := by omega
    have e2 : 0 ≤ (n : Int) / 256 := by omega
    have e3 : 0 ≤ (n : Int) / 256 % 256 := by omega
    have e4 : (n : Int) / 256 % 256 < 256 := by omega
    have e5 : 0 ≤ (n : Int) % 256 := by omega
    have e6 : (n : Int) % 256 < 256 := by omega
    clear hown e h1 h2 h3 hn
    generalize (n : Int) = z at *
    go_enter Try.func48, Try.ntmps48
    go_wp2_with fail
    go_ret
    exact ⟨_, rfl, HO.out, (Below.refl _ _).alloc (Nat.le_refl _) _⟩
end Go.Proofs.Ytipphdadibdifaa
