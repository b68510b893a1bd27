/- Contracts of rollbooklaw04.turned and mixed. -/
import Derived.Test.YtnlkhnmbfkpghaaDoorPlainTells
import Derived.Test.YtnlkhnmbfkpghaaDoorUnpack
import Derived.Laws.BitsAllLaws
namespace Go.Proofs.YtnlkhnmbfkpghaaDoor
open Go.RowKit
open Go.PlainAid
set_option maxRecDepth 100000
set_option linter.unusedVariables false

/-- Block g holds these bytes from its head on, and they may be written. -/
def ByR (W : World) (g : Nat) (L : List UInt8) : Prop := g < W.heap.size ∧ ∀ j (h : j < L.length), W.cell? ⟨g, j, none⟩ = some (.int .u8 (L[j].toNat : Int)) ∧ W.frozen? ⟨g, j, none⟩ = false

theorem ByR.set {W : World} {g : Nat} {L : List UInt8} (h : ByR W g L) (i : Nat) (hi : i < L.length) (c : UInt8) : ByR (W.setCell ⟨g, i, none⟩ (.int .u8 (c.toNat : Int))) g (L.set i c) := by
  refine ⟨by simpa [World.setCell] using h.1, fun j hj => ?_⟩
  have hj' : j < L.length := by simpa using hj
  obtain ⟨h1, h2⟩ := h.2 j hj'
  refine ⟨?_, by rw [World.frozen?_setCell]; exact h2⟩
  by_cases e : i = j
  · subst e
    rw [World.cell?_setCell_same' _ _ _ (by rw [h1]; rfl)]
    simp
  · rw [World.cell?_setCell_other (h := fun h' => e (by injection h')), h1]
    simp [e]
theorem ByR.drew {W : World} {g : Nat} {L : List UInt8} (h : ByR W g L) : ByR W.drew g L := h
theorem ByR.conv {W : World} {g n cap : Nat} {L : List UInt8} (h : ByR W g L) (hn : n = L.length) : (convert 71 9 (.slice (some ⟨g, 0, none⟩) n cap)).run Tryd.prog W = .ok (.string ⟨L.toArray⟩) W :=
  conv_cells hn fun j hj => by rw [Nat.zero_add]; exact (h.2 j hj).1

theorem byR_own {W : World} {base n cap : Nat} {A : Option Addr} {L : List UInt8} (h : OwnM W base 5 (.slice A n cap) n (u8s L)) (hp : 0 < L.length) : ∃ g, A = some ⟨g, 0, none⟩ ∧ base ≤ g ∧ n = L.length ∧ ByR W g L := by
  obtain ⟨h1, h2⟩ := h
  rw [u8s_len] at h1
  rcases h2 with ⟨_, h0⟩ | ⟨g, c, cur, fz, hv, hb, hh, hf, hc, hm, hs, ht⟩
  · omega
  · injection hv with hA _ hcc
    refine ⟨g, hA, hb, h1.symm, lt_of_block hh, fun j hj => ⟨?_, ?_⟩⟩
    · rw [cell_of_row W g j cur _ fz hh]
      have e : (cur.toList.take n)[j]? = (u8s L)[j]? := by rw [ht]
      rw [List.getElem?_take_of_lt (by omega)] at e
      rw [← Array.getElem?_toList, e]
      unfold u8s
      rw [List.getElem?_map, List.getElem?_eq_getElem hj]
      rfl
    · obtain ⟨lo, hi⟩ := fz
      simp only [World.frozen?, hh, Bool.and_eq_false_iff, decide_eq_false_iff_not]
      simp only at hf
      omega

/-- A byte of a number, the lowest first. -/
def byK (y k : Nat) : UInt8 := UInt8.ofNat (y / 256 ^ k % 256)
/-- k bytes turned, from place p on. -/
def turnK (l : List UInt8) (p y : Nat) : Nat → List UInt8
  | 0 => l
  | k + 1 => (turnK l p y k).set (p + k) ((turnK l p y k).getD (p + k) 0 ^^^ byK y k)
theorem turnK_len (l : List UInt8) (p y k : Nat) : (turnK l p y k).length = l.length := by
  induction k with
  | zero => rfl
  | succ k ih => simp [turnK, ih]
theorem turnK_far (l : List UInt8) (p y k i : Nat) (h : i < p ∨ p + k ≤ i) : (turnK l p y k)[i]? = l[i]? := by
  induction k with
  | zero => rfl
  | succ k ih =>
    unfold turnK
    rw [List.getElem?_set_ne (by omega), ih (by omega)]
theorem turnK_at (l : List UInt8) (p y k i : Nat) (h : i < k) (hp : p + k ≤ l.length) : (turnK l p y k)[p + i]? = some (l.getD (p + i) 0 ^^^ byK y i) := by
  induction k with
  | zero => omega
  | succ k ih =>
    unfold turnK
    by_cases e : i = k
    · subst e
      rw [List.getElem?_set_self (by rw [turnK_len]; omega)]
      congr 2
      rw [List.getD_eq_getElem?_getD, turnK_far l p y i (p + i) (by omega), ← List.getD_eq_getElem?_getD]
    · rw [List.getElem?_set_ne (by omega), ih (by omega) (by omega)]

/-- Where it is turned. -/
def atOf (x : Int) (n : Nat) : Nat := ((x % 18446744073709551616).toNat) % (n - 3)
theorem atOf_lt (x : Int) (n : Nat) (h : 4 ≤ n) : atOf x n + 4 ≤ n := by
  unfold atOf
  have := Nat.mod_lt (x % 18446744073709551616).toNat (show 0 < n - 3 by omega)
  omega
theorem atOf_int (x : Int) (n : Nat) (h : 4 ≤ n) : (x % 18446744073709551616) % (((n : Int) - 3)) = (atOf x n : Int) := by
  unfold atOf
  have h0 : 0 ≤ x % 18446744073709551616 := Int.emod_nonneg _ (by decide)
  rw [show ((n : Int) - 3) = ((n - 3 : Nat) : Int) by omega]
  generalize x % 18446744073709551616 = z at *
  obtain ⟨m, rfl⟩ := Int.eq_ofNat_of_zero_le h0
  simp

theorem xor_by (l : List UInt8) (p y k : Nat) (c : UInt8) : bits .xor .u8 (c.toNat : Int) ((y / 256 ^ k % 256 : Nat) : Int) = ((c ^^^ byK y k).toNat : Int) := by
  rw [u8_xor_nat _ _ c.toNat_lt (by omega)]
  congr 1
  rw [UInt8.toNat_xor]
  congr 1
  unfold byK
  rw [UInt8.toNat_ofNat']
  omega

/-- Where turned's loop stands. -/
def TurnAt (w : World) (g : Nat) (l : List UInt8) (p y k : Nat) (wr : World) : Prop := k ≤ 4 ∧ ByR wr g (turnK l p y k) ∧ Below w.heap.size w wr

set_option maxHeartbeats 4000000 in
theorem turned_any (s : ByteArray) (x : Int) (y : Nat) (w : World) (hs : 4 ≤ s.size) (hs2 : s.size ≤ 1000) (hy : y < 4294967296) :
    Calls Tryd.prog 25 #[.string s, .int .i64 x, .int .u32 (y : Int)] w (TellsS ⟨(turnK s.data.toList (atOf x s.size) y 4).toArray⟩ w) := by
  obtain ⟨A, cap, W1, hcv, hown, hbl⟩ := conv_bytes s (by unfold maxLen; omega) w
  obtain ⟨g, rfl, hg, hn0, hby⟩ := byR_own hown (by rw [len_size]; omega)
  clear hn0
  have hpa := atOf_lt x s.size hs
  have hpi := atOf_int x s.size hs
  have hux : IntKind.u64.wrap x = x % 18446744073709551616 := by rw [IntKind.wrap_u64]
  have hu0 : 0 ≤ x % 18446744073709551616 := Int.emod_nonneg _ (by decide)
  have hu1 : x % 18446744073709551616 < 18446744073709551616 := Int.emod_lt_of_pos _ (by decide)
  generalize x % 18446744073709551616 = ux at *
  generalize atOf x s.size = p at *
  have HS := Lib.hid (show TurnAt w g s.data.toList p y 0 W1 from ⟨by omega, hby, hbl⟩)
  have HG := Lib.hid hg
  clear hown hby hbl hg
  go_enter Tryd.func25, Tryd.ntmps25
  go_wp2_with fail
  clear hcv hpi hux hu0 hu1
  go_loopw [8] (fun i wr => ∃ k : Nat, i = .int .i64 k ∧ TurnAt w g s.data.toList p y k wr) (fun i _ => 4 - (intOf i).toNat)
  case atStart => exact ⟨0, rfl, HS.out⟩
  case round =>
    clear HS
    obtain ⟨k, rfl, hk, hby, hbl⟩ := hrel
    have HBL := Lib.hid hbl
    have HBY := Lib.hid hby
    by_cases h4 : k = 4
    · subst h4
      have hcv := hby.conv (cap := cap) (n := s.size) (by rw [turnK_len]; rfl)
      clear hby hbl
      generalize (⟨(turnK s.data.toList p y 4).toArray⟩ : ByteArray) = rs at *
      go_wp2_with fail
      go_ret
      exact tellsS_of rfl HBL.out
    · have hpk : p + k < (turnK s.data.toList p y k).length := by rw [turnK_len, len_size]; omega
      obtain ⟨c1, c2⟩ := hby.2 (p + k) hpk
      have HST := Lib.hid (show ∀ c : UInt8, c = (turnK s.data.toList p y k)[p + k] ^^^ byK y k → TurnAt w g s.data.toList p y (k + 1) (wr.drew.setCell ⟨g, p + k, none⟩ (.int .u8 (c.toNat : Int))) by
        intro c hc
        refine ⟨by omega, ?_, (hbl.drew).setCell (by have := HG.out; simp; omega) _⟩
        unfold turnK
        have e : (turnK s.data.toList p y k).getD (p + k) 0 = (turnK s.data.toList p y k)[p + k] := by rw [List.getD_eq_getElem?_getD, List.getElem?_eq_getElem hpk]; rfl
        rw [e, ← hc]
        exact hby.drew.set (p + k) hpk c)
      have hx := xor_by s.data.toList p y k ((turnK s.data.toList p y k)[p + k])
      have HS2 := Lib.hid (HST.out _ rfl)
      generalize (turnK s.data.toList p y k)[p + k] ^^^ byK y k = cc at *
      generalize (turnK s.data.toList p y k)[p + k].toNat = cv at *
      clear HST hby hbl hpk
      have hkk : k = 0 ∨ k = 1 ∨ k = 2 ∨ k = 3 := by omega
      clear h4 hk
      have hkq : (k = 0 ∧ bits .xor .u8 (cv : Int) ((y : Int) % 256) = (cc.toNat : Int)) ∨ (k = 1 ∧ bits .xor .u8 (cv : Int) ((y : Int) / 256 % 256) = (cc.toNat : Int)) ∨ (k = 2 ∧ bits .xor .u8 (cv : Int) ((y : Int) / 65536 % 256) = (cc.toNat : Int)) ∨ (k = 3 ∧ bits .xor .u8 (cv : Int) ((y : Int) / 16777216) = (cc.toNat : Int)) := by
        rcases hkk with rfl | rfl | rfl | rfl
        · exact .inl ⟨rfl, by rw [← hx]; congr 1 <;> simp⟩
        · exact .inr (.inl ⟨rfl, by rw [← hx]; congr 1 <;> simp⟩)
        · exact .inr (.inr (.inl ⟨rfl, by rw [← hx]; congr 1 <;> simp⟩))
        · exact .inr (.inr (.inr ⟨rfl, by rw [← hx]; congr 1; simp; omega⟩))
      clear hkk hx
      rcases hkq with ⟨rfl, hx⟩ | ⟨rfl, hx⟩ | ⟨rfl, hx⟩ | ⟨rfl, hx⟩
      all_goals
        first
          | rw [show ((0 : Nat) : Int) = 0 from rfl]
          | rw [show ((1 : Nat) : Int) = 1 from rfl]
          | rw [show ((2 : Nat) : Int) = 2 from rfl]
          | rw [show ((3 : Nat) : Int) = 3 from rfl]
        try simp only [Nat.add_zero] at c1 c2
        have w0 : IntKind.i64.wrap (p : Int) = (p : Int) := by rw [IntKind.wrap_i64]; omega
        have i1 : (0 : Int) ≤ (p : Int) := by omega
        have i2 : (p : Int) < s.size := by omega
        have j1 : (0 : Int) ≤ (p : Int) + 1 := by omega
        have j2 : (p : Int) + 1 < s.size := by omega
        have k1 : (0 : Int) ≤ (p : Int) + 2 := by omega
        have k2 : (p : Int) + 2 < s.size := by omega
        have l1 : (0 : Int) ≤ (p : Int) + 3 := by omega
        have l2 : (p : Int) + 3 < s.size := by omega
        have w1 : IntKind.i64.wrap ((p : Int) + 1) = (p : Int) + 1 := by rw [IntKind.wrap_i64]; omega
        have w2 : IntKind.i64.wrap ((p : Int) + 2) = (p : Int) + 2 := by rw [IntKind.wrap_i64]; omega
        have w3 : IntKind.i64.wrap ((p : Int) + 3) = (p : Int) + 3 := by rw [IntKind.wrap_i64]; omega
        have t1 : ((p : Int) + 1).toNat = p + 1 := by omega
        have t2 : ((p : Int) + 2).toNat = p + 2 := by omega
        have t3 : ((p : Int) + 3).toNat = p + 3 := by omega
        go_wp2_with fail
        go_region
      all_goals
        clear w0 w1 w2 w3 t1 t2 t3 hx c1 c2
        go_wp2_with fail
        go_roundw
        case rel => exact ⟨_, rfl, HS2.out⟩
        case measure => simp [intOf]

/-- Is byte k turned, and is it one of the sum's? -/
def inB (p y sum k : Nat) : Bool := !(y / 256 ^ k % 256 == 0) && decide (sum ≤ p + k ∧ p + k < sum + 4)
def outB (p y sum k : Nat) : Bool := !(y / 256 ^ k % 256 == 0) && !decide (sum ≤ p + k ∧ p + k < sum + 4)
def anyB (f : Nat → Bool) : Nat → Bool
  | 0 => false
  | k + 1 => anyB f k || f k
/-- Are some of the turned bytes the sum's, and others not? -/
def mixedB (p y sum : Nat) : Bool := anyB (inB p y sum) 4 && anyB (outB p y sum) 4

set_option maxHeartbeats 4000000 in
theorem mixed_any (s : ByteArray) (x : Int) (y sum : Nat) (w : World) (hs : 4 ≤ s.size) (hs2 : s.size ≤ 1000) (hy : y < 4294967296) (hsum : sum ≤ 100) :
    Calls Tryd.prog 26 #[.string s, .int .i64 x, .int .u32 (y : Int), .int .i64 (sum : Int)] w (TellsB (mixedB (atOf x s.size) y sum) w) := by
  have hpa := atOf_lt x s.size hs
  have hpi := atOf_int x s.size hs
  have hux : IntKind.u64.wrap x = x % 18446744073709551616 := by rw [IntKind.wrap_u64]
  have hu0 : 0 ≤ x % 18446744073709551616 := Int.emod_nonneg _ (by decide)
  have hu1 : x % 18446744073709551616 < 18446744073709551616 := Int.emod_lt_of_pos _ (by decide)
  generalize x % 18446744073709551616 = ux at *
  generalize atOf x s.size = p at *
  go_enter Tryd.func26, Tryd.ntmps26
  go_wp2_with fail
  clear hpi hux hu0 hu1
  go_loop [9, 10, 11] (fun a b i => ∃ (k : Nat) (f g : Bool), i = .int .i64 k ∧ a = .bool f ∧ b = .bool g ∧ k ≤ 4 ∧ Hid (f = anyB (inB p y sum) k) ∧ Hid (g = anyB (outB p y sum) k)) (fun _ _ i => 4 - (intOf i).toNat)
  case atStart => exact ⟨0, false, false, rfl, rfl, rfl, by omega, show _ = _ from rfl, show _ = _ from rfl⟩
  case round =>
    obtain ⟨k, f, g, rfl, rfl, rfl, hk, HF, HG⟩ := hrel
    by_cases h4 : k = 4
    · subst h4
      rw [show ((4 : Nat) : Int) = 4 from rfl]
      have HE := Lib.hid (show mixedB p y sum = (f && g) by unfold mixedB; rw [HF.out, HG.out])
      cases f <;> cases g
      all_goals
        go_wp2_with fail
        go_ret
        exact ⟨by rw [HE.out]; rfl, rfl⟩
    · have HS : Hid (∀ a b : Bool, inB p y sum k = a → outB p y sum k = b → (f || a) = anyB (inB p y sum) (k + 1) ∧ (g || b) = anyB (outB p y sum) (k + 1)) := by
        intro a b ha hb
        rw [HF.out, HG.out, ← ha, ← hb]
        exact ⟨rfl, rfl⟩
      have hcs : (y / 256 ^ k % 256 = 0 ∧ Hid (inB p y sum k = false ∧ outB p y sum k = false)) ∨ (y / 256 ^ k % 256 ≠ 0 ∧ p + k < sum ∧ Hid (inB p y sum k = false ∧ outB p y sum k = true)) ∨ (y / 256 ^ k % 256 ≠ 0 ∧ sum ≤ p + k ∧ sum + 4 ≤ p + k ∧ Hid (inB p y sum k = false ∧ outB p y sum k = true)) ∨ (y / 256 ^ k % 256 ≠ 0 ∧ sum ≤ p + k ∧ p + k < sum + 4 ∧ Hid (inB p y sum k = true ∧ outB p y sum k = false)) := by
        unfold inB outB
        by_cases h0 : y / 256 ^ k % 256 = 0
        · exact .inl ⟨h0, show _ ∧ _ by simp [h0]⟩
        · rcases Nat.lt_or_ge (p + k) sum with h1 | h1
          · exact .inr (.inl ⟨h0, h1, show _ ∧ _ by simp [h0]; omega⟩)
          · rcases Nat.lt_or_ge (p + k) (sum + 4) with h2 | h2
            · exact .inr (.inr (.inr ⟨h0, h1, h2, show _ ∧ _ by simp [h0]; omega⟩))
            · exact .inr (.inr (.inl ⟨h0, h1, h2, show _ ∧ _ by simp [h0]; omega⟩))
      have hkk : k = 0 ∨ k = 1 ∨ k = 2 ∨ k = 3 := by omega
      have HF1 : Hid (inB p y sum k = false ∧ outB p y sum k = false → f = anyB (inB p y sum) (k + 1) ∧ g = anyB (outB p y sum) (k + 1)) := fun h => by
        have := HS.out false false h.1 h.2
        simpa using this
      have HF2 : Hid (inB p y sum k = false ∧ outB p y sum k = true → f = anyB (inB p y sum) (k + 1) ∧ true = anyB (outB p y sum) (k + 1)) := fun h => by
        have := HS.out false true h.1 h.2
        simpa using this
      have HF3 : Hid (inB p y sum k = true ∧ outB p y sum k = false → true = anyB (inB p y sum) (k + 1) ∧ g = anyB (outB p y sum) (k + 1)) := fun h => by
        have := HS.out true false h.1 h.2
        simpa using this
      clear h4 hk HF HG HS
      rcases hkk with rfl | rfl | rfl | rfl
      all_goals
        first
          | rw [show ((0 : Nat) : Int) = 0 from rfl]
          | rw [show ((1 : Nat) : Int) = 1 from rfl]
          | rw [show ((2 : Nat) : Int) = 2 from rfl]
          | rw [show ((3 : Nat) : Int) = 3 from rfl]
        rcases hcs with ⟨h0, HQ⟩ | ⟨h0, h1, HQ⟩ | ⟨h0, h1, h2, HQ⟩ | ⟨h0, h1, h2, HQ⟩
      all_goals
        first
          | have q : ((y : Int) % 256 == 0) = true := by simp at h0 ⊢; omega
          | have q : ((y : Int) / 256 % 256 == 0) = true := by simp at h0 ⊢; omega
          | have q : ((y : Int) / 65536 % 256 == 0) = true := by simp at h0 ⊢; omega
          | have q : ((y : Int) / 16777216 == 0) = true := by simp at h0 ⊢; omega
          | have q : ((y : Int) % 256 == 0) = false := by simp at h0 ⊢; omega
          | have q : ((y : Int) / 256 % 256 == 0) = false := by simp at h0 ⊢; omega
          | have q : ((y : Int) / 65536 % 256 == 0) = false := by simp at h0 ⊢; omega
          | have q : ((y : Int) / 16777216 == 0) = false := by simp at h0 ⊢; omega
        clear h0
        go_wp2_with fail
        first
          | (go_round
             case rel => first | exact ⟨1, _, _, rfl, rfl, rfl, by omega, (HF1.out HQ.out).1, (HF1.out HQ.out).2⟩ | exact ⟨1, _, _, rfl, rfl, rfl, by omega, (HF2.out HQ.out).1, (HF2.out HQ.out).2⟩ | exact ⟨1, _, _, rfl, rfl, rfl, by omega, (HF3.out HQ.out).1, (HF3.out HQ.out).2⟩ | exact ⟨2, _, _, rfl, rfl, rfl, by omega, (HF1.out HQ.out).1, (HF1.out HQ.out).2⟩ | exact ⟨2, _, _, rfl, rfl, rfl, by omega, (HF2.out HQ.out).1, (HF2.out HQ.out).2⟩ | exact ⟨2, _, _, rfl, rfl, rfl, by omega, (HF3.out HQ.out).1, (HF3.out HQ.out).2⟩ | exact ⟨3, _, _, rfl, rfl, rfl, by omega, (HF1.out HQ.out).1, (HF1.out HQ.out).2⟩ | exact ⟨3, _, _, rfl, rfl, rfl, by omega, (HF2.out HQ.out).1, (HF2.out HQ.out).2⟩ | exact ⟨3, _, _, rfl, rfl, rfl, by omega, (HF3.out HQ.out).1, (HF3.out HQ.out).2⟩ | exact ⟨4, _, _, rfl, rfl, rfl, by omega, (HF1.out HQ.out).1, (HF1.out HQ.out).2⟩ | exact ⟨4, _, _, rfl, rfl, rfl, by omega, (HF2.out HQ.out).1, (HF2.out HQ.out).2⟩ | exact ⟨4, _, _, rfl, rfl, rfl, by omega, (HF3.out HQ.out).1, (HF3.out HQ.out).2⟩ | (trace_state; fail)
             case measure => simp [intOf])
          | (trace_state; fail)
end Go.Proofs.YtnlkhnmbfkpghaaDoor
