/- Contracts of the reference's With and Pack. -/
import Derived.Test.YtnlkhnmbfkpghaaDoorPack
namespace Go.Proofs.YtnlkhnmbfkpghaaDoor
open Go.RowKit
open Go.PlainAid
set_option maxRecDepth 100000

/-- A page's bytes with these as sum. -/
def withS (k n t : Nat) (b sum : List UInt8) : List UInt8 := pageHead k n t b.length ++ sum ++ pageTail b

set_option maxHeartbeats 4000000 in
theorem with_any (k n t : Nat) (b sum : ByteArray) (w : World) (hk : k ≤ 4) (hn : n < 512) (ht : t ≤ 1099511627776) (hb : b.size ≤ 488) (hs : sum.size ≤ 4) :
    Calls Tryd.prog 38 #[.agg #[.int .i64 (k : Int), .int .i64 (n : Int), .int .i64 (t : Int), .string b], .string sum] w (TellsS ⟨(withS k n t b.data.toList sum.data.toList).toArray⟩ w) := by
  have hb0 : Below w.heap.size w (w.alloc (.cells #[.int .i64 (k : Int), .int .i64 (n : Int), .int .i64 (t : Int), .string b] 23)) := (Below.refl _ _).alloc (Nat.le_refl _) _
  have hbk := Bk.new w 23 #[.int .i64 (k : Int), .int .i64 (n : Int), .int .i64 (t : Int), .string b]
  have HN1 := fun W : World => number_any k 1 W (by decide) (by decide) (by omega) (by omega)
  have HN2 := fun W : World => number_any b.size 2 W (by decide) (by decide) (by omega) (by omega)
  have HN4 := fun W : World => number_any n 4 W (by decide) (by decide) (by omega) (by omega)
  have HN8 := fun W : World => number_any t 8 W (by decide) (by decide) (by omega) (by omega)
  have HO1 := fun W : World => noughts_any 1 W (by decide)
  have HO2 := fun W : World => noughts_any 2 W (by decide)
  have HOb := fun W : World => noughts_any (488 - b.size) W (by omega)
  have hout : (⟨#[82, 66]⟩ ++ ⟨(Be.low k 1).toArray⟩ ++ noughts 1 ++ ⟨(Be.low b.size 2).toArray⟩ ++ ⟨(Be.low n 4).toArray⟩ ++ ⟨(Be.low t 8).toArray⟩ ++ sum ++ noughts 2 ++ b ++ noughts (488 - b.size) : ByteArray) = ⟨(withS k n t b.data.toList sum.data.toList).toArray⟩ := by
    apply str_eq
    simp only [append_list]
    unfold withS pageHead pageTail lays
    simp only [noughts_list, len_size, List.flatMap_cons, List.flatMap_nil, List.append_nil, List.append_assoc]
    rfl
  have z1 : (⟨(Be.low k 1).toArray⟩ : ByteArray).size ≤ 1 := by rw [size_list, Be.low_len]; exact Nat.le_refl _
  have z2 : (⟨(Be.low b.size 2).toArray⟩ : ByteArray).size ≤ 2 := by rw [size_list, Be.low_len]; exact Nat.le_refl _
  have z3 : (⟨(Be.low n 4).toArray⟩ : ByteArray).size ≤ 4 := by rw [size_list, Be.low_len]; exact Nat.le_refl _
  have z4 : (⟨(Be.low t 8).toArray⟩ : ByteArray).size ≤ 8 := by rw [size_list, Be.low_len]; exact Nat.le_refl _
  have z5 : (noughts 1).size ≤ 1 := by rw [noughts_size]; exact Nat.le_refl _
  have z6 : (noughts 2).size ≤ 2 := by rw [noughts_size]; exact Nat.le_refl _
  have z7 : (noughts (488 - b.size)).size ≤ 488 := by rw [noughts_size]; omega
  generalize (⟨(Be.low k 1).toArray⟩ : ByteArray) = s1 at *
  generalize (⟨(Be.low b.size 2).toArray⟩ : ByteArray) = s2 at *
  generalize (⟨(Be.low n 4).toArray⟩ : ByteArray) = s3 at *
  generalize (⟨(Be.low t 8).toArray⟩ : ByteArray) = s4 at *
  generalize noughts 1 = s5 at *
  generalize noughts 2 = s6 at *
  have cat : ∀ (a b : ByteArray), a.size ≤ 100000 → b.size ≤ 100000 → ∃ c : ByteArray, Hid (c = a ++ b) ∧ c.size ≤ a.size + b.size ∧ ∀ W : World, (Op.stringOp .add a b).run Tryd.prog W = .ok (.string c) W := fun a b ha hb =>
    ⟨a ++ b, show _ = _ from rfl, by rw [ByteArray.size_append]; exact Nat.le_refl _, fun W => run_string_add_sum W a b (by omega)⟩
  have z0 : (⟨#[82, 66]⟩ : ByteArray).size ≤ 2 := by decide
  generalize noughts (488 - b.size) = s7 at *
  obtain ⟨a1, E1, y1, k1⟩ := cat ⟨#[82, 66]⟩ s1 (by omega) (by omega)
  obtain ⟨a2, E2, y2, k2⟩ := cat a1 s5 (by omega) (by omega)
  obtain ⟨a3, E3, y3, k3⟩ := cat a2 s2 (by omega) (by omega)
  obtain ⟨a4, E4, y4, k4⟩ := cat a3 s3 (by omega) (by omega)
  obtain ⟨a5, E5, y5, k5⟩ := cat a4 s4 (by omega) (by omega)
  obtain ⟨a6, E6, y6, k6⟩ := cat a5 sum (by omega) (by omega)
  obtain ⟨a7, E7, y7, k7⟩ := cat a6 s6 (by omega) (by omega)
  obtain ⟨a8, E8, y8, k8⟩ := cat a7 b (by omega) (by omega)
  obtain ⟨a9, E9, y9, k9⟩ := cat a8 s7 (by omega) (by omega)
  have hz8 : (488 : Int) - b.size = ((488 - b.size : Nat) : Int) := by omega
  have hz9 : IntKind.i64.wrap ((488 : Int) - b.size) = ((488 - b.size : Nat) : Int) := by rw [IntKind.wrap_i64]; omega
  have HOUT := Lib.hid (show a9 = _ by rw [E9.out, E8.out, E7.out, E6.out, E5.out, E4.out, E3.out, E2.out, E1.out, hout])
  generalize hW0 : w.alloc (.cells #[.int .i64 (k : Int), .int .i64 (n : Int), .int .i64 (t : Int), .string b] 23) = W0 at *
  have HW0 := Lib.hid hW0
  have HN1a := Lib.hid fun (W : World) (hb : Below W0.heap.size W0 W) => (show Calls Tryd.prog 40 #[.int .i64 (k : Int), .int .i64 1] W (fun e w' => e = .returned (.string s1) ∧ Below W0.heap.size W0 w') from (HN1 W).mono fun e w' h => ⟨h.1, hb.trans (h.2.mono hb.size)⟩)
  have HN2a := Lib.hid fun (W : World) (hb : Below W0.heap.size W0 W) => (show Calls Tryd.prog 40 #[.int .i64 (b.size : Int), .int .i64 2] W (fun e w' => e = .returned (.string s2) ∧ Below W0.heap.size W0 w') from (HN2 W).mono fun e w' h => ⟨h.1, hb.trans (h.2.mono hb.size)⟩)
  have HN4a := Lib.hid fun (W : World) (hb : Below W0.heap.size W0 W) => (show Calls Tryd.prog 40 #[.int .i64 (n : Int), .int .i64 4] W (fun e w' => e = .returned (.string s3) ∧ Below W0.heap.size W0 w') from (HN4 W).mono fun e w' h => ⟨h.1, hb.trans (h.2.mono hb.size)⟩)
  have HN8a := Lib.hid fun (W : World) (hb : Below W0.heap.size W0 W) => (show Calls Tryd.prog 40 #[.int .i64 (t : Int), .int .i64 8] W (fun e w' => e = .returned (.string s4) ∧ Below W0.heap.size W0 w') from (HN8 W).mono fun e w' h => ⟨h.1, hb.trans (h.2.mono hb.size)⟩)
  have HO1a := Lib.hid fun (W : World) (hb : Below W0.heap.size W0 W) => (show Calls Tryd.prog 39 #[.int .i64 1] W (fun e w' => e = .returned (.string s5) ∧ Below W0.heap.size W0 w') from (HO1 W).mono fun e w' h => ⟨h.1, hb.trans (h.2.mono hb.size)⟩)
  have HO2a := Lib.hid fun (W : World) (hb : Below W0.heap.size W0 W) => (show Calls Tryd.prog 39 #[.int .i64 2] W (fun e w' => e = .returned (.string s6) ∧ Below W0.heap.size W0 w') from (HO2 W).mono fun e w' h => ⟨h.1, hb.trans (h.2.mono hb.size)⟩)
  have HOba := Lib.hid fun (W : World) (hb : Below W0.heap.size W0 W) => (show Calls Tryd.prog 39 #[.int .i64 ((488 - b.size : Nat) : Int)] W (fun e w' => e = .returned (.string s7) ∧ Below W0.heap.size W0 w') from (HOb W).mono fun e w' h => ⟨h.1, hb.trans (h.2.mono hb.size)⟩)
  have HKS := Lib.hid fun (W : World) (hb : Below W0.heap.size W0 W) => (show W.cell? ⟨w.heap.size, 0, none⟩ = some (.int .i64 (k : Int)) ∧ W.cell? ⟨w.heap.size, 1, none⟩ = some (.int .i64 (n : Int)) ∧ W.cell? ⟨w.heap.size, 2, none⟩ = some (.int .i64 (t : Int)) ∧ W.cell? ⟨w.heap.size, 3, none⟩ = some (.string b) ∧ Below W0.heap.size W0 W from
    have h5 := (bk_below hbk hb).four
    ⟨h5.1, h5.2.1, h5.2.2.1, h5.2.2.2, hb⟩)
  have HBR := Lib.hid (Below.refl W0.heap.size W0).drew
  have HB0 := Lib.hid hb0
  obtain ⟨c0, c1, c2, c3⟩ := hbk.four
  clear hout hW0 HN1 HN2 HN4 HN8 HO1 HO2 HOb hb0 hbk hz8 hk hn ht cat E1 E2 E3 E4 E5 E6 E7 E8 E9 y1 y2 y3 y4 y5 y6 y7 y8 y9 z0 z1 z2 z3 z4 z5 z6 z7
  go_enter Tryd.func38, Tryd.ntmps38
  go_wp2_with fail
  rw [HW0.out]
  go_region_held3 (fun W => W.cell? ⟨w.heap.size, 0, none⟩ = some (.int .i64 (k : Int)) ∧ W.cell? ⟨w.heap.size, 1, none⟩ = some (.int .i64 (n : Int)) ∧ W.cell? ⟨w.heap.size, 2, none⟩ = some (.int .i64 (t : Int)) ∧ W.cell? ⟨w.heap.size, 3, none⟩ = some (.string b) ∧ Below W0.heap.size W0 W) (first | exact HKS.out _ HBR.out | exact HKS.out _ (by assumption))
    (first
      | (go_at_call 40; (with_reducible refine (HN1a.out _ (by first | exact HBR.out | assumption)).mono ?_); rintro e wN ⟨rfl, hbN⟩)
      | (go_at_call 40; (with_reducible refine (HN2a.out _ (by first | exact HBR.out | assumption)).mono ?_); rintro e wN ⟨rfl, hbN⟩)
      | (go_at_call 40; (with_reducible refine (HN4a.out _ (by first | exact HBR.out | assumption)).mono ?_); rintro e wN ⟨rfl, hbN⟩)
      | (go_at_call 40; (with_reducible refine (HN8a.out _ (by first | exact HBR.out | assumption)).mono ?_); rintro e wN ⟨rfl, hbN⟩)
      | (go_at_call 39; (with_reducible refine (HO1a.out _ (by first | exact HBR.out | assumption)).mono ?_); rintro e wN ⟨rfl, hbN⟩)
      | (go_at_call 39; (with_reducible refine (HO2a.out _ (by first | exact HBR.out | assumption)).mono ?_); rintro e wN ⟨rfl, hbN⟩)
      | (go_at_call 39; (with_reducible refine (HOba.out _ (by first | exact HBR.out | assumption)).mono ?_); rintro e wN ⟨rfl, hbN⟩))
  all_goals
    go_wp2_with fail
    go_ret
    exact tellsS_of HOUT.out.symm (HB0.out.trans (hbN.mono HB0.out.size))

theorem withS_sum (k n t : Nat) (b : List UInt8) : withS k n t b (Be.low (pageSum k n t b) 4) = pageS k n t b := rfl
theorem withS_len (k n t : Nat) (b sum : List UInt8) (hb : b.length ≤ 488) (hs : sum.length = 4) : (withS k n t b sum).length = 512 := by
  unfold withS pageHead pageTail lays
  simp [Be.low_len, hs]
  omega

set_option maxHeartbeats 4000000 in
theorem rpack_any (k n t : Int) (b : ByteArray) (w : World) :
    Calls Tryd.prog 12 #[.agg #[.int .i64 k, .int .i64 n, .int .i64 t, .string b]] w (PackPost k n t b w) := by
  have HR := fun W : World => rright_any k n t b W
  have hb0 : Below w.heap.size w (w.alloc (.cells #[.int .i64 k, .int .i64 n, .int .i64 t, .string b] 23)) := (Below.refl _ _).alloc (Nat.le_refl _) _
  have hbk := Bk.new w 23 #[.int .i64 k, .int .i64 n, .int .i64 t, .string b]
  cases hq : rightB k n t b with
  | false =>
    rw [hq] at HR
    have H1 := Lib.hid HR
    have HS := Lib.hid (show packS k n t b = ⟨#[]⟩ ∧ packE k n t b = 4 by unfold packS packE; rw [hq]; exact ⟨rfl, rfl⟩)
    clear hq HR
    go_enter Tryd.func12, Tryd.ntmps12
    go_wp2_with (first
      | (go_at_call 14; refine (H1.out _).mono ?_; rintro e w2 ⟨rfl, hb2⟩)
      | fail)
    go_ret2
    exact ⟨by rw [HS.out.1, HS.out.2]; rfl, hb0.trans (hb2.mono hb0.size)⟩
  | true =>
    rw [hq] at HR
    have H1 := Lib.hid HR
    have hS : packS k n t b = ⟨(pageS k.toNat n.toNat t.toNat b.data.toList).toArray⟩ ∧ packE k n t b = 0 := by unfold packS packE; rw [hq]; exact ⟨rfl, rfl⟩
    obtain ⟨h1, h2, h3, h4, h5, h6, h7⟩ := rightB_yes hq
    clear hq HR
    obtain ⟨kn, rfl⟩ := Int.eq_ofNat_of_zero_le (show 0 ≤ k by omega)
    obtain ⟨nn, rfl⟩ := Int.eq_ofNat_of_zero_le (show 0 ≤ n by omega)
    obtain ⟨tn, rfl⟩ := Int.eq_ofNat_of_zero_le (show 0 ≤ t by omega)
    have HN4 := fun W : World => noughts_any 4 W (by decide)
    have HW1 := fun W : World => with_any kn nn tn b (noughts 4) W (by omega) (by omega) (by omega) h7 (by rw [noughts_size]; exact Nat.le_refl _)
    have hz1 : (⟨(withS kn nn tn b.data.toList (noughts 4).data.toList).toArray⟩ : ByteArray).size ≤ maxLen := by
      rw [size_list, withS_len _ _ _ _ _ h7 (by rw [len_size, noughts_size])]
      unfold maxLen
      omega
    have HSm := fun W : World => rsum_any ⟨(withS kn nn tn b.data.toList (noughts 4).data.toList).toArray⟩ W hz1
    have hsm : Crc.sum (⟨(withS kn nn tn b.data.toList (noughts 4).data.toList).toArray⟩ : ByteArray).data.toList = pageSum kn nn tn b.data.toList := rfl
    rw [hsm] at HSm
    have hsl : pageSum kn nn tn b.data.toList < 4294967296 := sum_lt _
    have HS2 := Lib.hid (show packS (kn : Int) nn tn b = ⟨(withS kn nn tn b.data.toList (Be.low (pageSum kn nn tn b.data.toList) 4)).toArray⟩ ∧ packE (kn : Int) nn tn b = 0 by
      refine ⟨?_, hS.2⟩
      rw [hS.1]
      rfl)
    generalize pageSum kn nn tn b.data.toList = sm at *
    have HNm := fun W : World => number_any sm 4 W (by decide) (by decide) (by omega) (by omega)
    have HW2 := fun W : World => with_any kn nn tn b ⟨(Be.low sm 4).toArray⟩ W (by omega) (by omega) (by omega) h7 (by rw [size_list, Be.low_len]; exact Nat.le_refl _)
    generalize (⟨(withS kn nn tn b.data.toList (noughts 4).data.toList).toArray⟩ : ByteArray) = x1 at *
    rw [show (⟨(Be.low sm 4).toArray⟩ : ByteArray).data.toList = Be.low sm 4 from rfl] at HW2
    generalize (⟨(withS kn nn tn b.data.toList (Be.low sm 4)).toArray⟩ : ByteArray) = x2 at *
    generalize (⟨(Be.low sm 4).toArray⟩ : ByteArray) = ls at *
    generalize noughts 4 = n4 at *
    generalize hW0 : w.alloc (.cells #[.int .i64 (kn : Int), .int .i64 (nn : Int), .int .i64 (tn : Int), .string b] 23) = W0 at *
    have HW0 := Lib.hid hW0
    have G1 := Lib.hid fun (W : World) (hb : Below W0.heap.size W0 W) => (show Calls Tryd.prog 39 #[.int .i64 4] W (fun e w' => e = .returned (.string n4) ∧ Below W0.heap.size W0 w') from (HN4 W).mono fun e w' h => ⟨h.1, hb.trans (h.2.mono hb.size)⟩)
    have G2 := Lib.hid fun (W : World) (hb : Below W0.heap.size W0 W) => (show Calls Tryd.prog 38 #[.agg #[.int .i64 (kn : Int), .int .i64 (nn : Int), .int .i64 (tn : Int), .string b], .string n4] W (fun e w' => e = .returned (.string x1) ∧ Below W0.heap.size W0 w') from (HW1 W).mono fun e w' h => ⟨h.1, hb.trans (h.2.mono hb.size)⟩)
    have G3 := Lib.hid fun (W : World) (hb : Below W0.heap.size W0 W) => (show Calls Tryd.prog 37 #[.string x1] W (fun e w' => e = .returned (.int .u32 (sm : Int)) ∧ Below W0.heap.size W0 w') from (HSm W).mono fun e w' h => ⟨h.1, by rw [← h.2]; exact hb⟩)
    have G4 := Lib.hid fun (W : World) (hb : Below W0.heap.size W0 W) => (show Calls Tryd.prog 40 #[.int .i64 (sm : Int), .int .i64 4] W (fun e w' => e = .returned (.string ls) ∧ Below W0.heap.size W0 w') from (HNm W).mono fun e w' h => ⟨h.1, hb.trans (h.2.mono hb.size)⟩)
    have G5 := Lib.hid fun (W : World) (hb : Below W0.heap.size W0 W) => (show Calls Tryd.prog 38 #[.agg #[.int .i64 (kn : Int), .int .i64 (nn : Int), .int .i64 (tn : Int), .string b], .string ls] W (fun e w' => e = .returned (.string x2) ∧ Below W0.heap.size W0 w') from (HW2 W).mono fun e w' h => ⟨h.1, hb.trans (h.2.mono hb.size)⟩)
    have HKS := Lib.hid fun (W : World) (hb : Below W0.heap.size W0 W) => (show W.cell? ⟨w.heap.size, 0, none⟩ = some (.int .i64 (kn : Int)) ∧ W.cell? ⟨w.heap.size, 1, none⟩ = some (.int .i64 (nn : Int)) ∧ W.cell? ⟨w.heap.size, 2, none⟩ = some (.int .i64 (tn : Int)) ∧ W.cell? ⟨w.heap.size, 3, none⟩ = some (.string b) ∧ Below W0.heap.size W0 W from
      have h5 := (bk_below hbk hb).four
      ⟨h5.1, h5.2.1, h5.2.2.1, h5.2.2.2, hb⟩)
    have HB0 := Lib.hid hb0
    have e1 : (sm : Int) % 18446744073709551616 = sm := by omega
    have q0 : (0 : Int) ≤ sm := by omega
    have q1 : (sm : Int) < 4294967296 := by omega
    obtain ⟨c0, c1, c2, c3⟩ := hbk.four
    clear hS hW0 HN4 HW1 HSm HNm HW2 hb0 hbk h1 h2 h3 h4 h5 h6 hz1 hsm hsl e1
    go_enter Tryd.func12, Tryd.ntmps12
    go_wp2_with (first
      | (go_at_call 14; rw [HW0.out]; refine (H1.out _).mono ?_; rintro e w2 ⟨rfl, hb2⟩)
      | fail)
    clear c0 c1 c2 c3
    have HB2 := Lib.hid hb2.drew
    clear hb2
    go_cut [4] (fun v wx => v = .int .u32 (sm : Int) ∧ Below W0.heap.size W0 wx)
    case first =>
      go_region_held3 (fun W => W.cell? ⟨w.heap.size, 0, none⟩ = some (.int .i64 (kn : Int)) ∧ W.cell? ⟨w.heap.size, 1, none⟩ = some (.int .i64 (nn : Int)) ∧ W.cell? ⟨w.heap.size, 2, none⟩ = some (.int .i64 (tn : Int)) ∧ W.cell? ⟨w.heap.size, 3, none⟩ = some (.string b) ∧ Below W0.heap.size W0 W) (first | exact HKS.out _ HB2.out | exact HKS.out _ (by assumption))
        (first
          | (go_at_call 39; (with_reducible refine (G1.out _ (by first | exact HB2.out | assumption)).mono ?_); rintro e wN ⟨rfl, hbN⟩)
          | (go_at_call 38; (with_reducible refine (G2.out _ (by assumption)).mono ?_); rintro e wN ⟨rfl, hbN⟩)
          | (go_at_call 37; (with_reducible refine (G3.out _ (by assumption)).mono ?_); rintro e wN ⟨rfl, hbN⟩))
      all_goals
        go_wp2_with fail
        go_meet
        exact ⟨rfl, by assumption⟩
    case rest =>
      obtain ⟨rfl, hbc⟩ := hcut
      have HBC := Lib.hid hbc.drew
      clear hbc
      have e2 : IntKind.i64.wrap (sm : Int) = sm := by rw [IntKind.wrap_i64]; omega
      go_wp2_with fail
      go_region_held3 (fun W => W.cell? ⟨w.heap.size, 0, none⟩ = some (.int .i64 (kn : Int)) ∧ W.cell? ⟨w.heap.size, 1, none⟩ = some (.int .i64 (nn : Int)) ∧ W.cell? ⟨w.heap.size, 2, none⟩ = some (.int .i64 (tn : Int)) ∧ W.cell? ⟨w.heap.size, 3, none⟩ = some (.string b) ∧ Below W0.heap.size W0 W) (first | exact HKS.out _ HBC.out | exact HKS.out _ (by assumption))
        (first
          | (go_at_call 40; (with_reducible refine (G4.out _ (by first | exact HBC.out | assumption)).mono ?_); rintro e wN ⟨rfl, hbN⟩)
          | (go_at_call 38; (with_reducible refine (G5.out _ (by assumption)).mono ?_); rintro e wN ⟨rfl, hbN⟩))
      all_goals
        go_wp2_with fail
        go_ret2
        exact ⟨by rw [HS2.out.1, HS2.out.2]; rfl, HB0.out.trans (hbN.mono HB0.out.size)⟩
end Go.Proofs.YtnlkhnmbfkpghaaDoor
