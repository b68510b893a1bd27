/- Contracts of page.PackMeta and of the reference's. -/
import Derived.Test.YtkkgiajjdcpicaaGreatDoorRightMeta
namespace Go.Proofs.YtkkgiajjdcpicaaGreatDoor
open Go.RowKit
open Go.PlainAid
set_option maxRecDepth 100000
set_option linter.unusedVariables false

def PackMPost (t r f p l : Int) (w : World) (e : Ending) (w' : World) : Prop := e = .returned (.tuple #[.string (metaS t r f p l), .int .i64 (metaE t r f p l)]) ∧ Below w.heap.size w w'

theorem fitsM (t r f p l : Nat) (ht : t ≤ 1099511627776) (hr : r < 512) (hf : f < 512) (hp : p ≤ 512) (hl : l ≤ 512) : Fits [(t, 8), (r, 4), (f, 4), (p, 4), (l, 4)] := by
  intro x hx
  simp only [List.mem_cons, List.not_mem_nil, or_false] at hx
  rcases hx with rfl | rfl | rfl | rfl | rfl <;> refine ⟨by simp, by simp, ?_, ?_⟩ <;> simp <;> omega

/-- A meta's bytes out of its parts. -/
theorem meta_parts {t r f p l : Nat} (hr : rightM t r f p l = true) {hd ls : ByteArray} (h1 : hd = ⟨(metaHead t r f p l).toArray⟩) (h2 : ls = ⟨(Be.low (Crc.sum (metaHead t r f p l)) 4).toArray⟩) :
    metaS t r f p l = hd ++ ls ++ noughts 92 ∧ metaE t r f p l = 0 := by
  refine ⟨?_, metaE_right hr⟩
  subst h1 h2
  rw [metaS_right hr]
  apply str_eq
  rw [append_list, append_list, noughts_list]
  rfl

set_option maxHeartbeats 4000000 in
theorem packM_any (t r f p l : Int) (w : World) (hrow : RowAt w) : Calls Tryz.prog 101 #[metaV t r f p l] w (PackMPost t r f p l w) := by
  have HR := fun W : World => prightM_any t r f p l W
  have hb0 : Below w.heap.size w (w.alloc (.cells #[.int .i64 t, .int .i64 r, .int .i64 f, .int .i64 p, .int .i64 l] 56)) := (Below.refl _ _).alloc (Nat.le_refl _) _
  have hbk := Bk.new w 56 #[.int .i64 t, .int .i64 r, .int .i64 f, .int .i64 p, .int .i64 l]
  have hrow0 := hrow.below hb0
  cases hq : rightM t r f p l with
  | false =>
    rw [hq] at HR
    have H1 := Lib.hid HR
    have HS := Lib.hid (show metaS t r f p l = ⟨#[]⟩ ∧ metaE t r f p l = 4 from ⟨metaS_wrong hq, metaE_wrong hq⟩)
    clear hq HR
    go_enter Tryz.func101, Tryz.ntmps101
    go_wp2_with (first
      | (go_at_call 159; refine (H1.out _).mono ?_; rintro e w2 ⟨rfl, hb2⟩)
      | fail)
    go_ret2
    exact ⟨by rw [HS.out.1, HS.out.2]; rfl, hb0.trans (hb2.mono hb0.size)⟩
  | true =>
    rw [hq] at HR
    have H1 := Lib.hid HR
    obtain ⟨h1, h2, h3, h4, h5, h6, h7, h8, h9, h10⟩ := rightM_yes hq
    obtain ⟨tn, rfl⟩ := Int.eq_ofNat_of_zero_le (show 0 ≤ t by omega)
    obtain ⟨rn, rfl⟩ := Int.eq_ofNat_of_zero_le (show 0 ≤ r by omega)
    obtain ⟨fn, rfl⟩ := Int.eq_ofNat_of_zero_le (show 0 ≤ f by omega)
    obtain ⟨pn, rfl⟩ := Int.eq_ofNat_of_zero_le (show 0 ≤ p by omega)
    obtain ⟨ln, rfl⟩ := Int.eq_ofNat_of_zero_le (show 0 ≤ l by omega)
    have hfit := fitsM tn rn fn pn ln (by omega) (by omega) (by omega) (by omega) (by omega)
    have HL1 := fun W : World => lay_any ⟨#[82, 79, 76, 76, 66, 79, 79, 75]⟩ W.heap.size 5 [(tn, 8), (rn, 4), (fn, 4), (pn, 4), (ln, 4)] _ rfl (by simp) (by decide) (numsAt5 W tn rn fn pn ln 8 4 4 4 4 256) hfit
    have hhd : (⟨#[82, 79, 76, 76, 66, 79, 79, 75]⟩ ++ ⟨(lays [(tn, 8), (rn, 4), (fn, 4), (pn, 4), (ln, 4)]).toArray⟩ : ByteArray) = ⟨(metaHead tn rn fn pn ln).toArray⟩ := by
      apply str_eq
      rw [append_list]
      rfl
    rw [hhd] at HL1
    have hhs : (⟨(metaHead tn rn fn pn ln).toArray⟩ : ByteArray).size = 32 := by rw [size_list, metaHead_len]
    have HSm := fun (W : World) (hW : RowAt W) => sum_any ⟨(metaHead tn rn fn pn ln).toArray⟩ W (by rw [hhs]; unfold maxLen; omega) hW
    rw [show (⟨(metaHead tn rn fn pn ln).toArray⟩ : ByteArray).data.toList = metaHead tn rn fn pn ln from rfl] at HSm
    have hsl := sum_lt (metaHead tn rn fn pn ln)
    have HPT := fun hd ls => @meta_parts tn rn fn pn ln hq hd ls
    have HP2 := HPT _ _ rfl rfl
    clear HPT
    generalize Crc.sum (metaHead tn rn fn pn ln) = sm at *
    generalize (⟨(metaHead tn rn fn pn ln).toArray⟩ : ByteArray) = hd at *
    have HL2 := fun W : World => lay_any hd W.heap.size 1 [(sm, 4)] _ rfl (by simp) (by omega) (numsAt1 W sm 4 256) (fits_one4 sm hsl)
    have hl1 : lays [(sm, 4)] = Be.low sm 4 := by unfold lays; simp
    rw [hl1] at HL2
    have hls : (⟨(Be.low sm 4).toArray⟩ : ByteArray).size = 4 := by rw [size_list, Be.low_len]
    generalize (⟨(Be.low sm 4).toArray⟩ : ByteArray) = ls at *
    have hlc : (hd ++ ls : ByteArray).size = 36 := by rw [ByteArray.size_append]; omega
    have HF := fun W : World => filled_any (hd ++ ls) 128 W (by omega) (by decide)
    rw [hlc] at HF
    generalize hd ++ ls = hl at *
    have HF2 := Lib.hid (show ∀ W, Calls Tryz.prog 161 #[.string hl, .int .i64 128] W (TellsS (hl ++ noughts 92) W) from HF)
    have HL1a := Lib.hid (show ∀ W : World, Calls Tryz.prog 160 #[.string ⟨#[82, 79, 76, 76, 66, 79, 79, 75]⟩, .slice (some ⟨W.heap.size, 0, none⟩) 5 5] (W.alloc (.cells #[.int .i64 (tn : Int), .int .i64 8, .int .i64 (rn : Int), .int .i64 4, .int .i64 (fn : Int), .int .i64 4, .int .i64 (pn : Int), .int .i64 4, .int .i64 (ln : Int), .int .i64 4] 256))
      (TellsS hd (W.alloc (.cells #[.int .i64 (tn : Int), .int .i64 8, .int .i64 (rn : Int), .int .i64 4, .int .i64 (fn : Int), .int .i64 4, .int .i64 (pn : Int), .int .i64 4, .int .i64 (ln : Int), .int .i64 4] 256))) from HL1)
    have HL22 := Lib.hid (show ∀ W : World, Calls Tryz.prog 160 #[.string hd, .slice (some ⟨W.heap.size, 0, none⟩) 1 1] (W.alloc (.cells #[.int .i64 (sm : Int), .int .i64 4] 256))
      (TellsS hl (W.alloc (.cells #[.int .i64 (sm : Int), .int .i64 4] 256))) from HL2)
    have HSM := Lib.hid HSm
    have HBK := Lib.hid hbk
    have HRW := Lib.hid hrow0
    have HB0 := Lib.hid hb0
    have HS2 := Lib.hid HP2
    clear HL1 HL2 HSm HF hhd hl1 hbk hrow0 hb0 hrow hq HR HP2 hfit hlc hls hhs
    go_enter Tryz.func101, Tryz.ntmps101
    go_wp2_with fail
    refine (H1.out _).mono ?_
    rintro e w2 ⟨rfl, hb2⟩
    obtain ⟨z0, z1, z2, z3, z4⟩ := (bk_below HBK.out hb2).five
    have X2 := Lib.hid (HB0.out.trans (hb2.mono HB0.out.size))
    have R2 := Lib.hid (HRW.out.below hb2)
    clear hb2
    go_wp2_with fail
    (with_reducible refine (HL1a.out _).mono ?_)
    rintro e w3 ⟨rfl, hb3⟩
    have hb33 : Below w2.heap.size w2 w3 := ((Below.refl w2.heap.size w2).alloc (Nat.le_refl _) _).trans (hb3.mono (by simp))
    have X3 := Lib.hid (X2.out.trans (hb33.mono X2.out.size))
    have R3 := Lib.hid (R2.out.below hb33)
    clear hb3 hb33 z0 z1 z2 z3 z4
    go_wp2_with (first
      | (go_at_call 162; refine (HSM.out _ R3.out).mono ?_; rintro e w' ⟨rfl, rfl⟩)
      | (go_at_call 160; (with_reducible refine (HL22.out _).mono ?_); rintro e w5 ⟨rfl, hb5⟩; have X5 := Lib.hid ((X3.out.alloc X3.out.size (.cells #[.int .i64 (sm : Int), .int .i64 4] 256)).trans (hb5.mono (by have := X3.out.size; simp; omega))); clear hb5)
      | (go_at_call 161; refine (HF2.out _).mono ?_; rintro e w6 ⟨rfl, hb6⟩)
      | fail)
    go_ret2
    exact ⟨by rw [HS2.out.1, HS2.out.2]; rfl, X5.out.trans (hb6.mono X5.out.size)⟩

end Go.Proofs.YtkkgiajjdcpicaaGreatDoor
