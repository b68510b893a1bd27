/- Plain Lean: numbers as bytes, the highest first. -/
namespace Go.Proofs.YtkkgiajjdcpicaaGreatDoor
namespace Be

/-- The k lowest bytes of a number, the highest first. -/
def low (n : Nat) : Nat → List UInt8
  | 0 => []
  | k + 1 => UInt8.ofNat (n / 256 ^ k % 256) :: low n k

/-- The number of bytes. -/
def num (l : List UInt8) : Nat := l.foldl (fun n c => n * 256 + c.toNat) 0

theorem low_len (n k : Nat) : (low n k).length = k := by
  induction k with
  | zero => rfl
  | succ k ih => simp [low, ih]

theorem fold_app (l : List UInt8) : ∀ a, l.foldl (fun n c => n * 256 + c.toNat) a = a * 256 ^ l.length + num l := by
  induction l with
  | nil => intro a; simp [num]
  | cons c l ih =>
    intro a
    unfold num
    simp only [List.foldl_cons, List.length_cons]
    rw [ih, ih (0 * 256 + c.toNat), Nat.pow_succ]
    simp [Nat.add_mul, Nat.mul_assoc, Nat.mul_comm 256, Nat.add_assoc]

theorem num_cons (c : UInt8) (l : List UInt8) : num (c :: l) = c.toNat * 256 ^ l.length + num l := by
  have := fold_app l (0 * 256 + c.toNat)
  simpa [num] using this

theorem num_snoc (c : UInt8) (l : List UInt8) : num (l ++ [c]) = num l * 256 + c.toNat := by unfold num; rw [List.foldl_append]; rfl

theorem num_lt (l : List UInt8) : num l < 256 ^ l.length := by
  induction l with
  | nil => simp [num]
  | cons c l ih =>
    rw [num_cons, List.length_cons, Nat.pow_succ]
    have hc := c.toNat_lt
    have : c.toNat * 256 ^ l.length ≤ 255 * 256 ^ l.length := Nat.mul_le_mul_right _ (by omega)
    omega

theorem num_low (n k : Nat) : num (low n k) = n % 256 ^ k := by
  induction k with
  | zero => simp [low, num, Nat.mod_one]
  | succ k ih =>
    unfold low
    rw [num_cons, low_len, ih]
    have e : (UInt8.ofNat (n / 256 ^ k % 256)).toNat = n / 256 ^ k % 256 := by rw [UInt8.toNat_ofNat']; omega
    rw [e, Nat.pow_succ, Nat.mod_mul]
    rw [Nat.mul_comm, Nat.add_comm]

theorem num_low_fit (n k : Nat) (h : n < 256 ^ k) : num (low n k) = n := by rw [num_low, Nat.mod_eq_of_lt h]

theorem num_inj : ∀ (a b : List UInt8), a.length = b.length → num a = num b → a = b
  | [], [], _, _ => rfl
  | [], _ :: _, h, _ => by simp at h
  | _ :: _, [], h, _ => by simp at h
  | x :: a, y :: b, h, hn => by
    have hl : a.length = b.length := by simpa using h
    rw [num_cons, num_cons, hl] at hn
    have ha := num_lt a
    have hb := num_lt b
    rw [hl] at ha
    have hp : 0 < 256 ^ b.length := Nat.pow_pos (by decide)
    have e1 : (x.toNat * 256 ^ b.length + num a) / 256 ^ b.length = x.toNat := by
      rw [Nat.mul_comm, Nat.mul_add_div hp, Nat.div_eq_of_lt ha, Nat.add_zero]
    have e2 : (y.toNat * 256 ^ b.length + num b) / 256 ^ b.length = y.toNat := by
      rw [Nat.mul_comm, Nat.mul_add_div hp, Nat.div_eq_of_lt hb, Nat.add_zero]
    have hx : x.toNat = y.toNat := by rw [← e1, hn, e2]
    have hxy : x = y := UInt8.toNat_inj.1 hx
    subst hxy
    rw [num_inj a b hl (by omega)]

theorem low_num (l : List UInt8) (k : Nat) (h : l.length = k) : low (num l) k = l := by
  refine num_inj _ _ (by rw [low_len, h]) ?_
  rw [num_low_fit _ _ (by rw [← h]; exact num_lt l)]

/-- Byte by byte from the end: what the shifts leave. -/
theorem div_step (n j : Nat) : n / 256 ^ j / 256 = n / 256 ^ (j + 1) := by rw [Nat.div_div_eq_div_mul, Nat.pow_succ]

theorem low_of_div (n m k : Nat) : low (n / 256 ^ m) k ++ low n m = low n (k + m) := by
  induction k with
  | zero => simp [low]
  | succ k ih =>
    rw [show k + 1 + m = (k + m) + 1 by omega]
    show (UInt8.ofNat (n / 256 ^ m / 256 ^ k % 256) :: low (n / 256 ^ m) k) ++ low n m = UInt8.ofNat (n / 256 ^ (k + m) % 256) :: low n (k + m)
    rw [List.cons_append, ih, Nat.div_div_eq_div_mul, ← Nat.pow_add, Nat.add_comm m k]
end Be
end Go.Proofs.YtkkgiajjdcpicaaGreatDoor
