/- Plain facts on bits, bytes and strings, no program: small sums by or, a byte's top bit, a string's bytes as a list. -/
import Derived.WalkKit
import Derived.PlainAid
namespace Go.Proofs.YtkkgiajjdcpicaaGreatDoor
open Go.RowKit
open Go.PlainAid

theorem wraps_i64 (n : Int) (h₀ : 0 ≤ n) (h₁ : n < 2 ^ 40) : IntKind.i64.wrap n = n := by rw [IntKind.wrap_i64]; omega
theorem wraps_u64 (n : Int) (h₀ : 0 ≤ n) (h₁ : n < 2 ^ 64) : IntKind.u64.wrap n = n := by rw [IntKind.wrap_u64]; omega

theorem nat_or_256 (n c : Nat) (hc : c < 256) : n * 256 ||| c = n * 256 + c := by
  have h := Nat.two_pow_add_eq_or_of_lt (i := 8) (b := c) (by simpa using hc) n
  have e : (2 : Nat) ^ 8 * n = n * 256 := by omega
  rw [e] at h
  exact h.symm

theorem i64_or_256 (n c : Int) (h0 : 0 ≤ n) (h1 : n < 16777216) (h2 : 0 ≤ c) (h3 : c ≤ 255) : bits BinOp.or IntKind.i64 (n * 256) c = n * 256 + c := by
  obtain ⟨a, rfl⟩ := Int.eq_ofNat_of_zero_le h0
  obtain ⟨b, rfl⟩ := Int.eq_ofNat_of_zero_le h2
  have h4 : a * 256 < 2 ^ 40 := by omega
  have h5 : b < 2 ^ 40 := by omega
  have h := (bits_nat .i64 40 (by decide) wraps_i64 (a * 256) b h4 h5).2
  rw [nat_or_256 a b (by omega)] at h
  have e : ((a * 256 : Nat) : Int) = (a : Int) * 256 := by omega
  rw [Int.natCast_add, e] at h
  exact h

theorem u8_top (c : Int) (h1 : 128 ≤ c) (h2 : c ≤ 255) : bits BinOp.andNot IntKind.u8 c 128 = c - 128 := by
  obtain ⟨a, rfl⟩ := Int.eq_ofNat_of_zero_le (show 0 ≤ c by omega)
  have h := u8_andNot_nat a 128 (by omega) (by omega)
  have e : a &&& 127 = a % 128 := Nat.and_two_pow_sub_one_eq_mod a 7
  rw [show 255 - 128 = 127 from rfl, e] at h
  exact h.trans (by omega)

theorem nonempty {s : ByteArray} (h : 0 < s.size) : s.toList.isEmpty = false := by
  rw [ByteArray.toList_eq]
  cases hl : s.data.toList with
  | nil => exfalso; have : s.data.toList.length = s.size := rfl; rw [hl] at this; simp at this; omega
  | cons _ _ => rfl

/-- Byte k of a string as its list has it. -/
theorem bt_list (s : ByteArray) (k : Nat) : bt s k = ((s.data.toList.getD k 0).toNat : Int) := by
  unfold bt
  split
  · rename_i h
    have h' : k < s.data.toList.length := by simpa using h
    rw [List.getD_eq_getElem?_getD, List.getElem?_eq_getElem h']
    rfl
  · rename_i h
    rw [List.getD_eq_getElem?_getD, List.getElem?_eq_none (by simpa using h)]
    rfl

end Go.Proofs.YtkkgiajjdcpicaaGreatDoor
