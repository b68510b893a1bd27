/- rollbooklaw25.BerDecodes returns true for every input: any bytes begin with a value's, or it is told what is amiss. No condition. -/
import Derived.Test.YtipphdadibdifaaRefDecode
import Derived.Test.YtipphdadibdifaaRefSame
namespace Go.Proofs.Ytipphdadibdifaa
open Go.RowKit
open Go.PlainAid

set_option maxRecDepth 100000 in
set_option maxHeartbeats 2000000 in
theorem berDecodes_walk (s : ByteArray) (w : World) (hs : s.size ≤ maxLen) :
    Calls Try.prog 8 #[.string s] w (Holds w) := by
  have H1 := Lib.hid awake25
  unfold maxLen at hs
  by_cases hl : 20000 < s.size
  · have q1 : decide ((20000 : Int) < s.size) = true := by simp; omega
    go_enter Try.func8, Try.ntmps8
    go_wp2_with (go_at_call 18; refine (H1.out _).mono ?_; rintro e w1 ⟨rfl, hb1⟩)
    go_ret
    exact ⟨rfl, hb1⟩
  · have q1 : decide ((20000 : Int) < s.size) = false := by simp; omega
    have HD := Lib.hid fun W : World => decode_any s W (by omega)
    have HR := Lib.hid fun W : World => rdecode_any s W (by omega)
    have HL := Lib.hid fun W : World => length_any s W (by unfold maxLen; omega)
    have HT := Lib.hid fun W : World => total_any s W (by unfold maxLen; omega)
    generalize PB.dec s.data.toList = r at HD HR
    obtain ⟨t, m, er⟩ := r
    generalize PB.total s.data.toList = p at HL HT
    obtain ⟨a, g⟩ := p
    dsimp only at HL HT
    go_enter Try.func8, Try.ntmps8
    go_wp2_with (first
      | (go_at_call 18; refine (H1.out _).mono ?_; rintro e w1 ⟨rfl, hb1⟩)
      | (go_at_call 29; refine (HD.out _).mono ?_; rintro e w2 ⟨hb2, cs, rfl, ht⟩; obtain ⟨x0, x1, x2, x3, xA, xn, xc, rfl⟩ := tlAt_form ht; dsimp only at ht ⊢)
      | fail)
    have hbl2 := hb1.trans (hb2.mono hb1.size)
    have hbk2 := Bk.new w2 44 #[.int .i64 x0, .bool x1, .int .i64 x2, .string x3, .slice xA xn xc]
    have hbl3 := hbl2.alloc hbl2.size (.cells #[.int .i64 x0, .bool x1, .int .i64 x2, .string x3, .slice xA xn xc] 44)
    have ht3 := TlAt.below ((Below.refl _ _).alloc (Nat.le_refl _) (.cells #[.int .i64 x0, .bool x1, .int .i64 x2, .string x3, .slice xA xn xc] 44)) _ _ ht
    generalize w2.alloc (.cells #[.int .i64 x0, .bool x1, .int .i64 x2, .string x3, .slice xA xn xc] 44) = w3 at *
    refine (HR.out _).mono ?_
    rintro e w4 ⟨hb4, ds, rfl, hu⟩
    obtain ⟨y0, y1, y2, y3, yA, yn, yc, rfl⟩ := tlAt_form hu
    dsimp only at hu ⊢
    have hbl4 := hbl3.trans (hb4.mono hbl3.size)
    have hbk4 := bk_below hbk2 hb4
    have ht4 := TlAt.below hb4 _ _ ht3
    have hbk5 := hbk4.alloc (.cells #[.int .i64 y0, .bool y1, .int .i64 y2, .string y3, .slice yA yn yc] 44)
    have hby5 := Bk.new w4 44 #[.int .i64 y0, .bool y1, .int .i64 y2, .string y3, .slice yA yn yc]
    have hbl5 := hbl4.alloc hbl4.size (.cells #[.int .i64 y0, .bool y1, .int .i64 y2, .string y3, .slice yA yn yc] 44)
    have ht5 := TlAt.below ((Below.refl _ _).alloc (Nat.le_refl _) (.cells #[.int .i64 y0, .bool y1, .int .i64 y2, .string y3, .slice yA yn yc] 44)) _ _ ht4
    have hu5 := TlAt.below ((Below.refl _ _).alloc (Nat.le_refl _) (.cells #[.int .i64 y0, .bool y1, .int .i64 y2, .string y3, .slice yA yn yc] 44)) _ _ hu
    clear hb1 hb2 ht hbl2 hbk2 hbl3 ht3 hb4 hu hbl4 hbk4 ht4
    go_wp2_with fail
    generalize w4.alloc (.cells #[.int .i64 y0, .bool y1, .int .i64 y2, .string y3, .slice yA yn yc] 44) = w5 at *
    obtain ⟨z0, z1, z2, z3, z4⟩ := hbk5.five
    obtain ⟨v0, v1, v2, v3, v4⟩ := hby5.five
    have HS := Lib.hid fun n : Nat => sameT_any _ _ _ t _ _ (w5.drewN n) (Nat.le_refl _) (TlAt.below (below_drewN (Below.refl _ _) n) _ _ ht5) (TlAt.below (below_drewN (Below.refl _ _) n) _ _ hu5)
    clear ht5 hu5 hbk5 hby5
    go_wp2_with (first
      | (go_at_call 32; refine (HL.out _).mono ?_; rintro e w' ⟨rfl, n1, rfl⟩)
      | (go_at_call 33; refine (HT.out _).mono ?_; rintro e w' ⟨rfl, n2, rfl⟩)
      | fail)
    refine (HS.out (n1 + n2)).mono ?_
    rintro e w6 ⟨rfl, hb6⟩
    have hbl6 := below_drewN hbl5 (n1 + n2)
    have hbl7 := hbl6.trans (hb6.mono hbl6.size)
    go_wp2_with fail
    go_ret
    exact ⟨rfl, hbl7⟩
end Go.Proofs.Ytipphdadibdifaa
