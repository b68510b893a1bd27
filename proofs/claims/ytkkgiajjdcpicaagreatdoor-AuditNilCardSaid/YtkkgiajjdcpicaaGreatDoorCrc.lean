/- Contracts of crc.On and crc.Sum, and of the reference's. -/
import Derived.Test.YtkkgiajjdcpicaaGreatDoorKit
import Derived.Test.YtkkgiajjdcpicaaGreatDoorPlainCrc
import Derived.Laws.BitsAllLaws
namespace Go.Proofs.YtkkgiajjdcpicaaGreatDoor
open Go.RowKit
open Go.PlainAid

/-- The row of sixteen sums lies where it was laid. -/
def RowAt (w : World) : Prop := ∀ k, k < 16 → w.cell? ⟨0, k, none⟩ = some (.int .u32 (Crc.row.getD k 0 : Nat))

def TellsU (n : Nat) (w : World) (e : Ending) (w' : World) : Prop := e = .returned (.int .u32 n) ∧ w = w'

theorem and15 (x : Nat) (h : x < 4294967296) : bits .and .u32 (x : Int) 15 = ((x % 16 : Nat) : Int) := by
  have := u32_and_nat x 15 h (by decide)
  rw [show x &&& 15 = x % 16 from Nat.and_two_pow_sub_one_eq_mod x 4] at this
  exact this

theorem row_lt (k : Nat) : Crc.row.getD k 0 < 4294967296 := by
  by_cases h : k < 16
  · exact (show ∀ k : Fin 16, Crc.row.getD k.val 0 < 4294967296 by decide) ⟨k, h⟩
  · rw [List.getD_eq_getElem?_getD, List.getElem?_eq_none (by simpa [Crc.row] using h)]
    decide

theorem nibXor (x : Nat) (h : x < 4294967296) : bits .xor .u32 ((x : Int) / 16) ((Crc.row.getD (x % 16) 0 : Nat) : Int) = ((Crc.nib x : Nat) : Int) := by
  have := u32_xor_nat (x / 16) (Crc.row.getD (x % 16) 0) (by omega) (row_lt _)
  exact this

theorem nib_lt (x : Nat) (h : x < 4294967296) : Crc.nib x < 4294967296 := Nat.xor_lt_two_pow (n := 32) (by omega) (row_lt _)

theorem not32 (n : Nat) (h : n < 4294967296) : bits .xor .u32 IntKind.u32.max (n : Int) = ((4294967295 - n : Nat) : Int) := by
  have h1 := u32_xor_nat 4294967295 n (by decide) h
  have h2 : 4294967295 ^^^ n = 4294967295 - n := by
    have h3 := BitVec.toNat_not (x := BitVec.ofNat 32 n)
    have h4 := BitVec.toNat_xor (x := BitVec.allOnes 32) (y := BitVec.ofNat 32 n)
    rw [BitVec.allOnes_xor] at h4
    have h5 : (BitVec.ofNat 32 n).toNat = n := by rw [BitVec.toNat_ofNat]; exact Nat.mod_eq_of_lt (by omega)
    have h6 : (BitVec.allOnes 32).toNat = 4294967295 := by decide
    rw [h5, h6] at h4
    rw [← h4, h3, h5]
  rw [h2] at h1
  exact h1

theorem byt_nib (r : Nat) (c : UInt8) : Crc.byt r c = Crc.nib (Crc.nib (r ^^^ c.toNat)) := by
  unfold Crc.byt Crc.bit8
  rw [Crc.nib_bits, Crc.nib_bits]

theorem reg_snoc (r : Nat) (l : List UInt8) (c : UInt8) : Crc.reg r (l ++ [c]) = Crc.byt (Crc.reg r l) c := by unfold Crc.reg; rw [List.foldl_append]; rfl

theorem take_snoc (s : ByteArray) (k : Nat) (h : k < s.size) : s.data.toList.take (k + 1) = s.data.toList.take k ++ [s[k]] := by
  rw [List.take_succ_eq_append_getElem (by simpa using h)]; rfl

set_option maxRecDepth 100000 in
set_option maxHeartbeats 1000000 in
theorem crcOn_any (s : ByteArray) (w : World) (hs : s.size ≤ maxLen) (hr : RowAt w) :
    Calls Tryz.prog 36 #[.int .u32 0, .string s] w (TellsU (Crc.sum s.data.toList) w) := by
  unfold maxLen at hs
  have HR := Lib.hid hr
  clear hr
  have e0 : bits .xor .u32 IntKind.u32.max 0 = ((4294967295 : Nat) : Int) := not32 0 (by decide)
  go_enter Tryz.func36, Tryz.ntmps36
  go_wp2_with fail
  clear e0
  go_loop [5, 11] (fun r i => ∃ (k n : Nat), i = .int .i64 k ∧ r = .int .u32 n ∧ k ≤ s.size ∧ Hid (n < 4294967296) ∧ Hid (n = Crc.reg 4294967295 (s.data.toList.take k))) (fun _ i => s.size - (intOf i).toNat)
  case atStart => exact ⟨0, _, rfl, rfl, Nat.zero_le _, show _ < _ by decide, show _ = _ by simp [Crc.reg]⟩
  case round =>
    obtain ⟨k, n, rfl, rfl, hk, HL, HN⟩ := hrel
    by_cases hlt : k < s.size
    · have hc := s[k].toNat_lt
      have e1 := u32_xor_nat n s[k].toNat HL.out (by omega)
      have HX := Lib.hid (show n ^^^ s[k].toNat < 4294967296 from Nat.xor_lt_two_pow (n := 32) HL.out (by omega))
      have HE := Lib.hid (show Crc.byt n s[k] = _ from byt_nib n s[k])
      have HT := Lib.hid (take_snoc s k hlt)
      generalize n ^^^ s[k].toNat = x at *
      have HM := Lib.hid (nib_lt x HX.out)
      have e2 := and15 x HX.out
      have e3 := nibXor x HX.out
      have hm : x % 16 < 16 := by omega
      have c1 := HR.out (x % 16) hm
      generalize x % 16 = m at *
      generalize Crc.row.getD m 0 = a at *
      generalize Crc.nib x = y at *
      have e4 := and15 y HM.out
      have e5 := nibXor y HM.out
      have HZ := Lib.hid (nib_lt y HM.out)
      have hm2 : y % 16 < 16 := by omega
      have c2 := HR.out (y % 16) hm2
      generalize y % 16 = m2 at *
      generalize Crc.row.getD m2 0 = a2 at *
      generalize Crc.nib y = z at *
      have e6 : ((s[k].toNat : Nat) : Int) % 4294967296 = s[k].toNat := by omega
      clear hc
      go_wp2_with fail
      go_round
      case rel => exact ⟨k + 1, z, by go_num, rfl, by omega, HZ.out, show _ = _ by rw [HT.out, reg_snoc, ← HN.out, HE.out]⟩
      case measure => simp [intOf]; omega
    · have e9 := not32 n HL.out
      have HE : Hid (n = Crc.reg 4294967295 s.data.toList) := by
        have := HN.out
        rw [List.take_of_length_le (by rw [len_size]; omega)] at this
        exact this
      go_wp2_with fail
      go_ret
      refine ⟨?_, rfl⟩
      rw [show Crc.sum s.data.toList = 4294967295 - n by unfold Crc.sum Crc.on; rw [HE.out]]
      rfl

theorem sum_any (s : ByteArray) (w : World) (hs : s.size ≤ maxLen) (hr : RowAt w) :
    Calls Tryz.prog 162 #[.string s] w (TellsU (Crc.sum s.data.toList) w) := by
  have H := Lib.hid (crcOn_any s w hs hr)
  clear hr
  go_enter Tryz.func162, Tryz.ntmps162
  go_wp2_with (go_at_call 36; refine H.out.mono ?_; rintro e w' ⟨rfl, rfl⟩)
  go_ret
  exact ⟨rfl, rfl⟩

/-- k steps. -/
def bitN : Nat → Nat → Nat
  | 0, r => r
  | k + 1, r => Crc.bit (bitN k r)

theorem bit_even' (n : Nat) (h : n % 2 ≠ 1) : Crc.bit n = n / 2 := by unfold Crc.bit; rw [if_neg h, Nat.xor_zero]
theorem bit_odd (n : Nat) (hn : n < 4294967296) (h : n % 2 = 1) : bits .xor .u32 ((n : Int) / 2) 3988292384 = ((Crc.bit n : Nat) : Int) := by
  have := u32_xor_nat (n / 2) 3988292384 (by omega) (by decide)
  unfold Crc.bit
  rw [if_pos h]
  exact this

end Go.Proofs.YtkkgiajjdcpicaaGreatDoor
