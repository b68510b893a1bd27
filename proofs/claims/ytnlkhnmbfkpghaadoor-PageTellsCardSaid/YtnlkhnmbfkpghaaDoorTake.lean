/- Contracts of field.Take, and of the reference's, where they succeed. -/
import Derived.Test.YtnlkhnmbfkpghaaDoorField
import Derived.Laws.BitsAllLaws
namespace Go.Proofs.YtnlkhnmbfkpghaaDoor
open Go.RowKit
open Go.PlainAid
set_option maxRecDepth 100000

/-- The number that stands there. -/
def numAt (s : ByteArray) (p k : Nat) : Nat := Be.num ((s.data.toList.drop p).take k)

def TellsUE (n : Nat) (w : World) (e : Ending) (w' : World) : Prop := e = .returned (.tuple #[.int .u64 n, .int .i64 0]) ∧ Below w.heap.size w w'
theorem tellsUE_of {n : Nat} {z : Int} {w w' : World} (h : (n : Int) = z) (hb : Below w.heap.size w w') : TellsUE n w (.returned (.tuple #[.int .u64 z, .int .i64 0])) w' := by subst h; exact ⟨rfl, hb⟩

theorem or_step (n c : Nat) (hn : n < 72057594037927936) (hc : c < 256) : bits .or .u64 ((n : Int) * 256) (c : Int) = ((n * 256 + c : Nat) : Int) := by
  have h := u64_or_nat (n * 256) c (by omega) (by omega)
  rw [nat_or_256 n c hc] at h
  rw [← h]
  congr 1

theorem num_take_lt (l : List UInt8) (j : Nat) (hj : j ≤ 7) : Be.num (l.take j) < 72057594037927936 := by
  have h := Be.num_lt (l.take j)
  have h2 : 256 ^ (l.take j).length ≤ 256 ^ 7 := Nat.pow_le_pow_right (by decide) (by rw [List.length_take]; omega)
  have h3 : 256 ^ 7 = 72057594037927936 := by decide
  omega

theorem num_take_snoc (l : List UInt8) (j : Nat) (h : j < l.length) : Be.num (l.take (j + 1)) = Be.num (l.take j) * 256 + l[j].toNat := by
  rw [List.take_succ_eq_append_getElem h, Be.num_snoc]

set_option maxHeartbeats 1000000 in
theorem take_ok (s : ByteArray) (p k : Nat) (w : World) (hs : s.size ≤ 1000000) (h1 : 1 ≤ k) (h8 : k ≤ 8) (hp : p + k ≤ s.size) :
    Calls Tryd.prog 58 #[.string s, .int .i64 p, .int .i64 k] w (TellsUE (numAt s p k) w) := by
  have q1 : decide ((k : Int) < 1) = false := by simp; omega
  have q2 : decide (8 < (k : Int)) = false := by simp; omega
  have q3 : decide ((p : Int) < 0) = false := by simp
  have q4 : p ≤ s.size := by omega
  have q5 : decide ((s.size : Int) - p < k) = false := by simp; omega
  have q6 : decide (s.size < p) = false := by simp; omega
  have hl : (s.extract p (p + k)).data.toList = (s.data.toList.drop p).take k := by rw [extract_list]; congr 1; omega
  have hsz : (s.extract p (p + k)).size = k := by rw [ByteArray.size_extract]; omega
  have HE := Lib.hid (show numAt s p k = Be.num (s.extract p (p + k)).data.toList by unfold numAt; rw [hl])
  obtain ⟨A, cap, W1, hcv, hown, hb1⟩ := conv_bytes (s.extract p (p + k)) (by rw [hsz]; unfold maxLen; omega) w
  rw [hsz] at hcv hown
  obtain ⟨A2, c2, hA2, -, -, -, hsl, -⟩ := hown.slice
  simp only [Value.slice.injEq, true_and] at hA2
  obtain ⟨rfl, rfl⟩ := hA2
  have hlen : (s.extract p (p + k)).data.toList.length = k := by rw [len_size, hsz]
  have HB := Lib.hid hb1
  have HS := Lib.hid hsl
  have HLEN := Lib.hid hlen
  generalize (s.extract p (p + k)).data.toList = l at *
  clear hl hsz hown hb1 hsl hlen
  go_enter Tryd.func58, Tryd.ntmps58
  go_wp2_with fail
  clear hcv
  go_loop [8, 43] (fun x i => ∃ (j : Nat), i = .int .i64 j ∧ x = .int .u64 (Be.num (l.take j) : Nat) ∧ j ≤ k) (fun _ i => k - (intOf i).toNat)
  case atStart => exact ⟨0, rfl, by simp [Be.num], Nat.zero_le _⟩
  case round =>
    obtain ⟨j, rfl, rfl, hj⟩ := hrel
    by_cases hlt : j < k
    · have hjl : j < l.length := by rw [HLEN.out]; exact hlt
      obtain ⟨b, o, rfl, hbl, hc⟩ := HS.out j (.int .u8 (l[j].toNat : Nat)) (by unfold u8s; rw [List.getElem?_map, List.getElem?_eq_getElem hjl]; rfl)
      have HN := Lib.hid (num_take_snoc l j hjl)
      have hx := num_take_lt l j (by omega)
      have e1 := or_step _ _ hx (show l[j].toNat < 256 by have := l[j].toNat_lt; omega)
      have hcl := l[j].toNat_lt
      generalize Be.num (l.take j) = x at *
      generalize l[j].toNat = c at *
      go_wp2_with fail
      go_round
      case rel => exact ⟨j + 1, by go_num, by rw [HN.out]; go_num, by omega⟩
      case measure => simp [intOf]; omega
    · obtain rfl : j = k := by omega
      have HT := Lib.hid (show l.take j = l from List.take_of_length_le (by rw [HLEN.out]; exact Nat.le_refl _))
      go_wp2_with fail
      go_ret2
      exact tellsUE_of (by rw [HE.out, HT.out]) HB.out

theorem drop_take_at (l : List UInt8) (p k j : Nat) (hj : j < k) (hp : p + k ≤ l.length) : ((l.drop p).take k)[j]'(by rw [List.length_take, List.length_drop]; omega) = l[p + j]'(by omega) := by
  simp

set_option maxHeartbeats 1000000 in
theorem rtake_ok (s : ByteArray) (p k : Nat) (w : World) (hs : s.size ≤ 1000000) (h1 : 1 ≤ k) (h8 : k ≤ 8) (hp : p + k ≤ s.size) :
    Calls Tryd.prog 43 #[.string s, .int .i64 p, .int .i64 k] w (TellsUE (numAt s p k) w) := by
  have q1 : decide ((k : Int) < 1) = false := by simp; omega
  have q2 : decide (8 < (k : Int)) = false := by simp; omega
  have q3 : decide ((p : Int) < 0) = false := by simp
  have q5 : decide ((s.size : Int) - k < p) = false := by simp; omega
  have hlen : ((s.data.toList.drop p).take k).length = k := by rw [List.length_take, List.length_drop, len_size]; omega
  have HLEN := Lib.hid hlen
  clear hlen
  go_enter Tryd.func43, Tryd.ntmps43
  go_wp2_with fail
  go_loop [8, 9] (fun x i => ∃ (j : Nat), i = .int .i64 j ∧ x = .int .u64 (Be.num (((s.data.toList.drop p).take k).take j) : Nat) ∧ j ≤ k) (fun _ i => k - (intOf i).toNat)
  case atStart => exact ⟨0, rfl, by simp [Be.num], Nat.zero_le _⟩
  case round =>
    obtain ⟨j, rfl, rfl, hj⟩ := hrel
    by_cases hlt : j < k
    · have hjl : j < ((s.data.toList.drop p).take k).length := by rw [HLEN.out]; exact hlt
      have hat := drop_take_at s.data.toList p k j hlt (by rw [len_size]; exact hp)
      have hsn := num_take_snoc ((s.data.toList.drop p).take k) j hjl
      rw [hat] at hsn
      have hsn2 : Be.num (((s.data.toList.drop p).take k).take (j + 1)) = Be.num (((s.data.toList.drop p).take k).take j) * 256 + (s[p + j]'(by omega)).toNat := hsn
      have HN := Lib.hid hsn2
      have hx := num_take_lt ((s.data.toList.drop p).take k) j (by omega)
      have hcl := (s[p + j]'(by omega)).toNat_lt
      have hin : p + j < s.size := by omega
      clear hsn hsn2 hat
      generalize Be.num (((s.data.toList.drop p).take k).take j) = x at *
      go_wp2_with fail
      go_round
      case rel => exact ⟨j + 1, by go_num, by rw [HN.out]; go_num, by omega⟩
      case measure => simp [intOf]; omega
    · obtain rfl : j = k := by omega
      have HT := Lib.hid (show ((s.data.toList.drop p).take j).take j = (s.data.toList.drop p).take j from List.take_of_length_le (by rw [HLEN.out]; exact Nat.le_refl _))
      go_wp2_with fail
      go_ret2
      exact tellsUE_of (by unfold numAt; rw [HT.out]) (Below.refl _ _)

/-- Where the reference's Put stands: j places to go. -/
def RPutAt (w : World) (n k j : Nat) (v : Value) (wr : World) : Prop :=
  j ≤ k ∧ (∃ A c, v = .slice A (k - j) c) ∧ wr.ownsRow w.heap.size 5 1 v (k - j) (u8s ((Be.low n k).take (k - j))) ∧ Below w.heap.size w wr

theorem low_at (n k m : Nat) (h : m < k) : (Be.low n k).take (k - m) = (Be.low n k).take (k - (m + 1)) ++ [UInt8.ofNat (n / 256 ^ m % 256)] := by
  have e : k - m = (k - (m + 1)) + 1 := by omega
  have h0 := Be.low_of_div n (m + 1) (k - (m + 1))
  rw [show k - (m + 1) + (m + 1) = k by omega] at h0
  rw [← h0, e]
  have hl := Be.low_len (n / 256 ^ (m + 1)) (k - (m + 1))
  show ((Be.low (n / 256 ^ (m + 1)) (k - (m + 1))) ++ (UInt8.ofNat (n / 256 ^ m % 256) :: Be.low n m)).take (k - (m + 1) + 1) = ((Be.low (n / 256 ^ (m + 1)) (k - (m + 1))) ++ (UInt8.ofNat (n / 256 ^ m % 256) :: Be.low n m)).take (k - (m + 1)) ++ [UInt8.ofNat (n / 256 ^ m % 256)]
  generalize Be.low (n / 256 ^ (m + 1)) (k - (m + 1)) = a at *
  rw [← hl, List.take_left]
  simp [List.take_append, List.take_of_length_le]

theorem top_lt (n k : Nat) (h1 : 1 ≤ k) (hn : n < 256 ^ k) : n / 256 ^ (k - 1) < 256 := by
  refine Nat.div_lt_of_lt_mul ?_
  rw [← Nat.pow_succ, Nat.succ_eq_add_one, show k - 1 + 1 = k by omega]
  exact hn

theorem sl_new (w : World) (e : TypeId) (v : Value) : Sl (w.alloc (.cells #[v] e)) (some ⟨w.heap.size, 0, none⟩) [v] := by
  intro j u hu
  cases j with
  | zero =>
    simp at hu
    subst hu
    exact ⟨w.heap.size, 0, rfl, by simp, by simp⟩
  | succ j => simp at hu

set_option maxHeartbeats 2000000 in
theorem rput_ok (s : ByteArray) (n k : Nat) (w : World) (hs : s.size ≤ 1000000) (h1 : 1 ≤ k) (h8 : k ≤ 8) (hn : n < 256 ^ k) :
    Calls Tryd.prog 56 #[.string s, .int .u64 n, .int .i64 k] w (TellsSE (s ++ ⟨(Be.low n k).toArray⟩) 0 w) := by
  obtain ⟨i0, hi, hz0, hz1, hz2⟩ := info_parts info_u8
  have htop := top_lt n k h1 hn
  have hn64 : n < 18446744073709551616 := Nat.lt_of_lt_of_le hn (pow256 k h8)
  have HN := Lib.hid hn64
  have HTOP := Lib.hid htop
  have q1 : decide ((k : Int) < 1) = false := by simp; omega
  have q2 : decide (8 < (k : Int)) = false := by simp; omega
  have HS := Lib.hid (show RPutAt w n k k (.slice (some ⟨w.heap.size, 0, none⟩) 0 0) (w.alloc (.cells #[] 5)) from ⟨Nat.le_refl _, ⟨_, _, by rw [Nat.sub_self]⟩, by rw [Nat.sub_self]; exact World.ownsRow_lit (base := w.heap.size) (size := 1) w #[] 0 (Nat.le_refl _) (by unfold maxLen; omega) rfl, (Below.refl _ _).alloc (Nat.le_refl _) _⟩)
  clear hn hn64 htop
  go_enter Tryd.func56, Tryd.ntmps56
  go_wp2_with fail
  go_loopw [8, 9] (fun v i wr => ∃ (j : Nat), i = .int .i64 ((j : Int) - 1) ∧ RPutAt w n k j v wr) (fun _ i _ => (intOf i + 1).toNat)
  case atStart => exact ⟨k, rfl, HS.out⟩
  case round =>
    clear HS
    obtain ⟨j, rfl, hat⟩ := hrel
    have HA := Lib.hid hat
    obtain ⟨hj, ⟨A, c, rfl⟩, hown, hbl⟩ := hat
    cases j with
    | zero =>
      have e : (((0 : Nat) : Int) - 1) = -1 := by omega
      rw [e]
      rw [Nat.sub_zero, List.take_of_length_le (by rw [Be.low_len]; exact Nat.le_refl _)] at hown
      have hcv := conv_row wr w.heap.size A c (Be.low n k) (by rw [Be.low_len]; exact hown) (by rw [Be.low_len]; exact h1)
      rw [Be.low_len] at hcv
      have hsz : (⟨(Be.low n k).toArray⟩ : ByteArray).size ≤ 8 := by rw [size_list, Be.low_len]; exact h8
      generalize (⟨(Be.low n k).toArray⟩ : ByteArray) = ls at *
      rw [Nat.sub_zero]
      clear e hown HTOP
      go_wp2_with fail
      go_ret2
      exact tellsSE_of rfl hbl
    | succ m =>
      have e : (((m + 1 : Nat) : Int) - 1) = m := by omega
      rw [e]
      clear e
      go_wp2_with fail
      go_loop [10, 11] (fun x i => ∃ (p : Nat), i = .int .i64 p ∧ x = .int .u64 (n / 256 ^ p : Nat) ∧ p ≤ m) (fun _ i => m - (intOf i).toNat)
      case atStart => exact ⟨0, rfl, by simp, Nat.zero_le _⟩
      case round =>
        obtain ⟨p, rfl, rfl, hp⟩ := hrel
        by_cases hpm : p < m
        · have HD := Lib.hid (Be.div_step n p)
          have HX := Lib.hid (show n / 256 ^ p < 18446744073709551616 from Nat.lt_of_le_of_lt (Nat.div_le_self _ _) HN.out)
          generalize n / 256 ^ p = x at *
          have e7 : (x : Int) / 256 % 18446744073709551616 = (x : Int) / 256 := by have := HX.out; omega
          go_wp2_with fail
          go_round
          case rel => exact ⟨p + 1, by go_num, by rw [← HD.out]; go_num, by omega⟩
          case measure => simp [intOf]; omega
        · obtain rfl : p = m := by omega
          have HLO := Lib.hid (low_at n k p (by omega))
          have HV := Lib.hid (show Value.int .u8 ((UInt8.ofNat (n / 256 ^ p % 256)).toNat) = .int .u8 ((n / 256 ^ p : Nat) % 256 : Int) by rw [UInt8.toNat_ofNat']; congr 1; omega)
          have htp : p + 1 = k → n / 256 ^ p < 256 := fun hpk => by
            have := HTOP.out
            rw [show k - 1 = p by omega] at this
            exact this
          generalize n / 256 ^ p = x at *
          have hq : (((p : Int) == (k : Int) - 1) = true ∧ decide (255 < (x : Int)) = false) ∨ ((p : Int) == (k : Int) - 1) = false := by
            by_cases hpk : p + 1 = k
            · have := htp hpk
              exact Or.inl ⟨by simp; omega, by simp; omega⟩
            · exact Or.inr (by simp; omega)
          clear htp
          have hws := hbl.size
          have HB := Lib.hid hbl
          clear hbl
          have hkp : k - (p + 1) ≤ 8 := by omega
          have HO := Lib.hid hown
          clear hown
          rcases hq with ⟨q3, q4⟩ | q3
          all_goals
            go_wp2_with (first
              | (at_builtin; refine wpList_append_sl _ rfl (.tmp 41) (.tmp 45) 71 rfl w.heap.size 5 i0 (.int .u8 0) 1 Tryd.underlying71 hi hz0 hz1 hz2 rfl _ _ _ rfl (World.ownsRow.alloc HO.out _) _ 1 1 [_] rfl rfl (sl_new _ _ _) (fun x hx => by simp at hx; subst hx; rfl) (by unfold maxLen; omega) (by omega) (by simp; omega) ?_; intro v2 w2 hown2 hgr2 _)
              | fail)
            have hb2 := (HB.out.alloc hws _).grown hgr2 (by simp; omega) (fun k hk => (HO.out.lt k hk).1)
            have ho2 : w2.ownsRow w.heap.size 5 1 v2 (k - p) (u8s ((Be.low n k).take (k - p))) := by
              rw [HLO.out, u8s_app, show k - p = k - (p + 1) + 1 by omega]
              have e1 : u8s [UInt8.ofNat (x % 256)] = [Value.int .u8 ((x : Int) % 256)] := by show [Value.int .u8 ((UInt8.ofNat (x % 256)).toNat)] = _; rw [HV.out]
              rw [e1]
              exact hown2
            have hnext : RPutAt w n k p v2 w2 := ⟨by omega, by obtain ⟨A4, c4, hv, _⟩ := own_slice ho2; exact ⟨A4, c4, hv⟩, ho2, hb2⟩
            clear hown2 hgr2 ho2 hb2
            go_roundw
            case rel => exact ⟨p, by go_num, hnext⟩
            case measure => simp [intOf]
end Go.Proofs.YtnlkhnmbfkpghaaDoor
