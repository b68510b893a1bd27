/- Contracts of ber.encode: a value without values in it. -/
import Derived.Test.YtipphdadibdifaaBerLen
import Derived.Deep.DeepCutAuto
import Derived.Deep.RegionWith
import Derived.Deep.RegionHeld3
namespace Go.Proofs.Ytipphdadibdifaa
open Go.RowKit
open Go.PlainAid

theorem nat_or_64 (n c : Nat) (hc : c < 64) : n * 64 ||| c = n * 64 + c := by
  have h := Nat.two_pow_add_eq_or_of_lt (i := 6) (b := c) (by simpa using hc) n
  have e : (2 : Nat) ^ 6 * n = n * 64 := by omega
  rw [e] at h
  exact h.symm

theorem i64_or_64 (n c : Int) (h0 : 0 ≤ n) (h1 : n < 16777216) (h2 : 0 ≤ c) (h3 : c < 64) : bits BinOp.or IntKind.i64 (n * 64) c = n * 64 + c := by
  obtain ⟨a, rfl⟩ := Int.eq_ofNat_of_zero_le h0
  obtain ⟨b, rfl⟩ := Int.eq_ofNat_of_zero_le h2
  have h4 : a * 64 < 2 ^ 40 := by omega
  have h5 : b < 2 ^ 40 := by omega
  have h := (bits_nat .i64 40 (by decide) wraps_i64 (a * 64) b h4 h5).2
  rw [nat_or_64 a b (by omega)] at h
  have e : ((a * 64 : Nat) : Int) = (a : Int) * 64 := by omega
  rw [Int.natCast_add, e] at h
  exact h

theorem length_le (n : Nat) (w : World) (hn : n ≤ 8192) : Calls Try.prog 47 #[.int .i64 n] w (TellsS ⟨(PB.lenB n).toArray⟩ w) := by
  by_cases h : n < 128
  · exact length_small n w h
  · exact length_large n w (by omega) hn

theorem conv_one (x : UInt8) (W : World) (k : Nat) (h : W.cell? ⟨k, 0, none⟩ = some (.int .u8 x.toNat)) : (convert 27 9 (.slice (some ⟨k, 0, none⟩) 1 1)).run Try.prog W = .ok (.string ⟨[x].toArray⟩) W := by
  have h1 := run_convert_bytes_arg W 27 5 Try.underlying27 Try.underlying5 k 0 1 1 [(x.toNat : Int)] rfl (fun i hi => by
    obtain rfl : i = 0 := by omega
    exact h) 9 Try.underlying9
  rw [h1]
  have e : strOfNums [(x.toNat : Int)] = ⟨[x].toArray⟩ := by
    apply str_of_list
    rw [strOfNums_data]
    simp
  rw [e]

theorem lenB_size (n : Nat) : (⟨(PB.lenB n).toArray⟩ : ByteArray).size ≤ 4 := by
  show (PB.lenB n).length ≤ 4
  unfold PB.lenB
  repeat' split
  all_goals simp

theorem bcell {W w1 : World} (hb : Below W.heap.size W w1) : (∀ b o, b < W.heap.size → w1.cell? ⟨b, o, none⟩ = W.cell? ⟨b, o, none⟩) ∧ (∀ b o, b < W.heap.size → w1.frozen? ⟨b, o, none⟩ = W.frozen? ⟨b, o, none⟩) :=
  ⟨fun b o h => hb.cell (p := ⟨b, o, none⟩) h, fun b o h => hb.frozen (p := ⟨b, o, none⟩) h⟩

set_option maxRecDepth 100000 in
set_option maxHeartbeats 1000000 in
theorem encode_flat (c g : Int) (b : ByteArray) (A : Option Addr) (n cap : Nat) (w : World) (hc0 : 0 ≤ c) (hc3 : c ≤ 3) (hg0 : 0 ≤ g) (hg3 : g ≤ 30) (hb : b.size ≤ 8000) :
    Calls Try.prog 36 #[.agg #[.int .i64 c, .bool false, .int .i64 g, .string b, .slice A n cap]] w fun e w' =>
      e = .returned (.tuple #[.string (⟨[UInt8.ofNat (c * 64 + g).toNat].toArray⟩ ++ ⟨(PB.lenB b.size).toArray⟩ ++ b), .bool true]) ∧ Below w.heap.size w w' := by
  have hor := i64_or_64 c g hc0 (by omega) hg0 (by omega)
  have q1 : decide ((8192 : Int) < b.size) = false := by simp; omega
  have HL := Lib.hid fun W : World => length_le b.size W (by omega)
  go_enter Try.func36, Try.ntmps36
  have hcv := conv_one (UInt8.ofNat (c * 64 + g).toNat)
  have hv : ((UInt8.ofNat (c * 64 + g).toNat).toNat : Int) = c * 64 + g := by rw [UInt8.toNat_ofNat']; omega
  rw [hv] at hcv
  have hsz1 : (⟨[UInt8.ofNat (c * 64 + g).toNat].toArray⟩ : ByteArray).size ≤ 1 := by simp [ByteArray.size]
  have hsz2 : (⟨(PB.lenB b.size).toArray⟩ : ByteArray).size ≤ 4 := lenB_size _
  generalize (⟨[UInt8.ofNat (c * 64 + g).toNat].toArray⟩ : ByteArray) = hd at *
  generalize (⟨(PB.lenB b.size).toArray⟩ : ByteArray) = ls at *
  have hfin2 : (hd ++ ls ++ b).size ≤ 8192 := by simp [ByteArray.size_append]; omega
  generalize hfe : hd ++ ls ++ b = fin at *
  have hfin : decide ((fin.size : Int) ≤ 8192) = true := by simp; omega
  have HFE := Lib.hid hfe
  clear hv hfe
  go_upto_region 17 with fail
  have hbw : Below w.heap.size w (w.alloc (.cells #[.int .i64 c, .bool false, .int .i64 g, .string b, .slice A n cap] 44)) := (Below.refl _ _).alloc (Nat.le_refl _) _
  generalize w.alloc (.cells #[.int .i64 c, .bool false, .int .i64 g, .string b, .slice A n cap] 44) = W at *
  have HBW := Lib.hid hbw
  clear hbw
  go_cut [11] (fun v wx => v = .string fin ∧ Below W.heap.size W wx)
  case first =>
    go_region_with (go_at_call 47; refine (HL.out _).mono ?_; rintro e w3 ⟨rfl, hb3⟩; obtain ⟨hcc, hff⟩ := bcell hb3)
    all_goals
      go_wp2_with fail
      go_meet
      refine ⟨by rw [← HFE.out], ?_⟩
      clear hcc hff
      first
        | exact (((Below.refl _ _).alloc (Nat.le_refl _) _).drew).trans (hb3.mono (by simp))
        | exact ((Below.refl _ _).drew.trans hb3).alloc hb3.size _
  case rest =>
    obtain ⟨rfl, hbc⟩ := hcut
    go_wp2_with fail
    go_ret2
    exact ⟨rfl, HBW.out.trans (hbc.mono HBW.out.size)⟩
end Go.Proofs.Ytipphdadibdifaa
