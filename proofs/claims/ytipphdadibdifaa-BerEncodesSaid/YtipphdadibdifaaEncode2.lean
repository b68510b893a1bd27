/- Contract of ber.encode, and of ber.Encode. -/
import Derived.Test.YtipphdadibdifaaPlainEnc
import Derived.Test.YtipphdadibdifaaBuilder
import Derived.Test.YtipphdadibdifaaEncode
namespace Go.Proofs.Ytipphdadibdifaa
open Go.RowKit
open Go.PlainAid

/-- What encode leaves: the bytes, if there are not too many. -/
def EncPost (l : List UInt8) (w : World) (e : Ending) (w' : World) : Prop :=
  Below w.heap.size w w' ∧ ((l.length ≤ 8192 ∧ e = .returned (.tuple #[.string ⟨l.toArray⟩, .bool true])) ∨ (8192 < l.length ∧ ∃ s, e = .returned (.tuple #[.string s, .bool false])))

theorem wraps_u8 (n : Int) (h₀ : 0 ≤ n) (h₁ : n < 2 ^ 8) : IntKind.u8.wrap n = n := by rw [IntKind.wrap_u8]; omega

set_option maxRecDepth 100000 in
theorem nat_or_32 : ∀ n : Fin 256, n.val % 64 < 32 → n.val ||| 32 = n.val + 32 := by decide

theorem u8_or_32 (n : Int) (h0 : 0 ≤ n) (h1 : n < 256) (h2 : n % 64 < 32) : bits BinOp.or IntKind.u8 n 32 = n + 32 := by
  obtain ⟨a, rfl⟩ := Int.eq_ofNat_of_zero_le h0
  have h := (bits_nat .u8 8 (by decide) wraps_u8 a 32 (by omega) (by omega)).2
  rw [nat_or_32 ⟨a, by omega⟩ (by show a % 64 < 32; omega)] at h
  exact h

theorem str_app3 (a b c : List UInt8) : (⟨a.toArray⟩ ++ ⟨b.toArray⟩ ++ ⟨c.toArray⟩ : ByteArray) = ⟨(a ++ (b ++ c)).toArray⟩ := by
  apply str_of_list
  simp

theorem size_list (l : List UInt8) : (⟨l.toArray⟩ : ByteArray).size = l.length := by simp [ByteArray.size]

set_option maxRecDepth 100000 in
set_option maxHeartbeats 2000000 in
theorem encode_prim (c g : Int) (b : ByteArray) (A : Option Addr) (n cap : Nat) (w : World) (hc0 : 0 ≤ c) (hc3 : c ≤ 3) (hg0 : 0 ≤ g) (hg3 : g ≤ 30) (hbm : b.size ≤ maxLen) :
    Calls Try.prog 36 #[.agg #[.int .i64 c, .bool false, .int .i64 g, .string b, .slice A n cap]] w (EncPost (UInt8.ofNat (c * 64 + g).toNat :: (PB.lenB b.size ++ b.data.toList)) w) := by
  unfold maxLen at hbm
  have hor := i64_or_64 c g hc0 (by omega) hg0 (by omega)
  by_cases hl : 8192 < b.size
  · have q1 : decide ((8192 : Int) < b.size) = true := by simp; omega
    go_enter Try.func36, Try.ntmps36
    go_wp2_with fail
    go_ret2
    exact ⟨(Below.refl _ _).alloc (Nat.le_refl _) _, Or.inr ⟨by simp; have : b.size = b.data.size := rfl; omega, _, rfl⟩⟩
  · have q1 : decide ((8192 : Int) < b.size) = false := by simp; omega
    have HL := Lib.hid fun W : World => length_le b.size W (by omega)
    have hcv := conv_one (UInt8.ofNat (c * 64 + g).toNat)
    have hv : ((UInt8.ofNat (c * 64 + g).toNat).toNat : Int) = c * 64 + g := by rw [UInt8.toNat_ofNat']; omega
    rw [hv] at hcv
    have hfe : (⟨[UInt8.ofNat (c * 64 + g).toNat].toArray⟩ ++ ⟨(PB.lenB b.size).toArray⟩ ++ b : ByteArray) = ⟨(UInt8.ofNat (c * 64 + g).toNat :: (PB.lenB b.size ++ b.data.toList)).toArray⟩ := by
      have := str_app3 [UInt8.ofNat (c * 64 + g).toNat] (PB.lenB b.size) b.data.toList
      rw [List.singleton_append] at this
      exact this
    have hln := PB.lenB_len b.size
    have hle : (UInt8.ofNat (c * 64 + g).toNat :: (PB.lenB b.size ++ b.data.toList)).length = 1 + (PB.lenB b.size).length + b.size := by simp; have : b.size = b.data.size := rfl; omega
    have hsz1 : (⟨[UInt8.ofNat (c * 64 + g).toNat].toArray⟩ : ByteArray).size ≤ 1 := by simp [ByteArray.size]
    have hsz2 : (⟨(PB.lenB b.size).toArray⟩ : ByteArray).size ≤ 4 := lenB_size _
    have hb8 : b.size ≤ 8192 := by omega
    generalize UInt8.ofNat (c * 64 + g).toNat :: (PB.lenB b.size ++ b.data.toList) = fl at *
    generalize (⟨[UInt8.ofNat (c * 64 + g).toNat].toArray⟩ : ByteArray) = hd at *
    generalize (⟨(PB.lenB b.size).toArray⟩ : ByteArray) = ls at *
    have HFE := Lib.hid hfe
    have hbd : fl.length ≤ 9000 := by omega
    clear hv hfe hle
    go_enter Try.func36, Try.ntmps36
    go_upto_region 17 with fail
    have hbw : Below w.heap.size w (w.alloc (.cells #[.int .i64 c, .bool false, .int .i64 g, .string b, .slice A n cap] 44)) := (Below.refl _ _).alloc (Nat.le_refl _) _
    generalize w.alloc (.cells #[.int .i64 c, .bool false, .int .i64 g, .string b, .slice A n cap] 44) = W at *
    have HBW := Lib.hid hbw
    clear hbw
    go_cut [11] (fun v wx => v = .string ⟨fl.toArray⟩ ∧ Below W.heap.size W wx)
    case first =>
      go_region_with (go_at_call 47; refine (HL.out _).mono ?_; rintro e w3 ⟨rfl, hb3⟩; obtain ⟨hcc, hff⟩ := bcell hb3)
      all_goals
        go_wp2_with fail
        go_meet
        refine ⟨by rw [← HFE.out], ?_⟩
        clear hcc hff
        first
          | exact (((Below.refl _ _).alloc (Nat.le_refl _) _).drew).trans (hb3.mono (by simp))
          | exact ((Below.refl _ _).drew.trans hb3).alloc hb3.size _
    case rest =>
      obtain ⟨rfl, hbc⟩ := hcut
      by_cases hf : fl.length ≤ 8192
      · have hq : decide ((fl.length : Int) ≤ 8192) = true := by simp; omega
        go_wp2_with fail
        go_ret2
        exact ⟨HBW.out.trans (hbc.mono HBW.out.size), Or.inl ⟨hf, rfl⟩⟩
      · have hq : decide ((fl.length : Int) ≤ 8192) = false := by simp; omega
        go_wp2_with fail
        go_ret2
        exact ⟨HBW.out.trans (hbc.mono HBW.out.size), Or.inr ⟨by omega, _, rfl⟩⟩

end Go.Proofs.Ytipphdadibdifaa
