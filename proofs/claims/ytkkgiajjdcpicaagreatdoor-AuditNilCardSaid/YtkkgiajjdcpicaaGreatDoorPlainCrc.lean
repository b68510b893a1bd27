/- Plain Lean: sums of bytes, bit by bit and four bits at a time. -/
namespace Go.Proofs.YtkkgiajjdcpicaaGreatDoor
namespace Crc

/-- One step of the register. -/
def bit (r : Nat) : Nat := r / 2 ^^^ (if r % 2 = 1 then 3988292384 else 0)
/-- Eight steps. -/
def bit8 (r : Nat) : Nat := bit (bit (bit (bit (bit (bit (bit (bit r)))))))
/-- A byte. -/
def byt (r : Nat) (c : UInt8) : Nat := bit8 (r ^^^ c.toNat)
/-- The register after bytes. -/
def reg (r : Nat) (l : List UInt8) : Nat := l.foldl byt r
/-- The sum, from a sum on. -/
def on (s : Nat) (l : List UInt8) : Nat := 4294967295 - reg (4294967295 - s) l
def sum (l : List UInt8) : Nat := on 0 l

def row : List Nat := [0x00000000, 0x1db71064, 0x3b6e20c8, 0x26d930ac, 0x76dc4190, 0x6b6b51f4, 0x4db26158, 0x5005713c, 0xedb88320, 0xf00f9344, 0xd6d6a3e8, 0xcb61b38c, 0x9b64c2b0, 0x86d3d2d4, 0xa00ae278, 0xbdbdf21c]
/-- Four steps by the row. -/
def nib (r : Nat) : Nat := r / 16 ^^^ row.getD (r % 16) 0

theorem half_xor (a b : Nat) : (a ^^^ b) / 2 = a / 2 ^^^ b / 2 := by
  have h := Nat.shiftRight_xor_distrib (a := a) (b := b) (i := 1)
  simpa [Nat.shiftRight_eq_div_pow] using h
theorem mod_xor (a b : Nat) : (a ^^^ b) % 2 = (a % 2 + b % 2) % 2 := by
  have h := Nat.xor_mod_two_pow (a := a) (b := b) (n := 1)
  simp at h
  rw [h]
  rcases Nat.mod_two_eq_zero_or_one a with ha | ha <;> rcases Nat.mod_two_eq_zero_or_one b with hb | hb <;> rw [ha, hb] <;> rfl

theorem xor4 (a b c d : Nat) : (a ^^^ b) ^^^ (c ^^^ d) = (a ^^^ c) ^^^ (b ^^^ d) := by
  rw [Nat.xor_assoc, ← Nat.xor_assoc b c d, Nat.xor_comm b c, Nat.xor_assoc c b d, ← Nat.xor_assoc]

theorem bit_xor (a b : Nat) : bit (a ^^^ b) = bit a ^^^ bit b := by
  unfold bit
  rw [half_xor, mod_xor, xor4]
  congr 1
  rcases Nat.mod_two_eq_zero_or_one a with ha | ha <;> rcases Nat.mod_two_eq_zero_or_one b with hb | hb <;> simp [ha, hb]

theorem bit8_xor (a b : Nat) : bit8 (a ^^^ b) = bit8 a ^^^ bit8 b := by unfold bit8; simp only [bit_xor]

theorem bit_even (q : Nat) : bit (2 * q) = q := by
  unfold bit
  rw [if_neg (by omega), Nat.xor_zero]
  omega

theorem bit4_row : ∀ a : Fin 16, bit (bit (bit (bit a.val))) = row.getD a.val 0 := by decide

theorem split16 (r : Nat) : r = 2 * (2 * (2 * (2 * (r / 16)))) ^^^ r % 16 := by
  obtain ⟨x, hx⟩ : ∃ x, x = 2 * (2 * (2 * (2 * (r / 16)))) ^^^ r % 16 := ⟨_, rfl⟩
  rw [← hx]
  have m0 := mod_xor (2 * (2 * (2 * (2 * (r / 16))))) (r % 16)
  have h1 := half_xor (2 * (2 * (2 * (2 * (r / 16))))) (r % 16)
  rw [← hx] at m0 h1
  rw [Nat.mul_div_cancel_left _ (by decide : 0 < 2)] at h1
  have m1 := mod_xor (2 * (2 * (2 * (r / 16)))) (r % 16 / 2)
  have h2 := half_xor (2 * (2 * (2 * (r / 16)))) (r % 16 / 2)
  rw [← h1] at m1 h2
  rw [Nat.mul_div_cancel_left _ (by decide : 0 < 2)] at h2
  have m2 := mod_xor (2 * (2 * (r / 16))) (r % 16 / 2 / 2)
  have h3 := half_xor (2 * (2 * (r / 16))) (r % 16 / 2 / 2)
  rw [← h2] at m2 h3
  rw [Nat.mul_div_cancel_left _ (by decide : 0 < 2)] at h3
  have m3 := mod_xor (2 * (r / 16)) (r % 16 / 2 / 2 / 2)
  have h4 := half_xor (2 * (r / 16)) (r % 16 / 2 / 2 / 2)
  rw [← h3] at m3 h4
  rw [Nat.mul_div_cancel_left _ (by decide : 0 < 2)] at h4
  have z : r % 16 / 2 / 2 / 2 / 2 = 0 := by omega
  rw [z, Nat.xor_zero] at h4
  clear hx h1 h2 h3
  omega

theorem nib_bits (r : Nat) : nib r = bit (bit (bit (bit r))) := by
  conv => rhs; rw [split16 r]
  simp only [bit_xor, bit_even]
  unfold nib
  rw [← bit4_row ⟨r % 16, by omega⟩]

theorem bit_lt (r : Nat) (h : r < 4294967296) : bit r < 4294967296 := by
  unfold bit
  refine Nat.xor_lt_two_pow (n := 32) (by omega) ?_
  split <;> omega

theorem bit8_lt (r : Nat) (h : r < 4294967296) : bit8 r < 4294967296 := by
  unfold bit8
  exact bit_lt _ (bit_lt _ (bit_lt _ (bit_lt _ (bit_lt _ (bit_lt _ (bit_lt _ (bit_lt _ h)))))))

theorem byt_lt (r : Nat) (c : UInt8) (h : r < 4294967296) : byt r c < 4294967296 := by
  unfold byt
  have hc := c.toNat_lt
  exact bit8_lt _ (Nat.xor_lt_two_pow (n := 32) h (by omega))

theorem reg_lt (l : List UInt8) : ∀ r, r < 4294967296 → reg r l < 4294967296 := by
  induction l with
  | nil => exact fun r h => h
  | cons c l ih => exact fun r h => ih _ (byt_lt r c h)

/-- The step cannot be lost: two registers that are two stay two. -/
theorem bit_inj {a b : Nat} (ha : a < 4294967296) (hb : b < 4294967296) (h : bit a = bit b) : a = b := by
  have h0 : bit (a ^^^ b) = 0 := by rw [bit_xor, h, Nat.xor_self]
  have hx : a ^^^ b < 4294967296 := Nat.xor_lt_two_pow (n := 32) ha hb
  have hz : a ^^^ b = 0 := by
    generalize a ^^^ b = x at *
    unfold bit at h0
    split at h0
    · have e : x / 2 = 3988292384 := by
        have := congrArg (· ^^^ 3988292384) h0
        simpa [Nat.xor_assoc] using this
      omega
    · rw [Nat.xor_zero] at h0
      omega
  have := congrArg (· ^^^ b) hz
  simpa [Nat.xor_assoc] using this
end Crc
end Go.Proofs.YtkkgiajjdcpicaaGreatDoor
