/- rollbooklaw25.BerNumbers returns true for every input: any whole number and any truth are read as they were laid; any value is one, or is none. No condition. -/
import Derived.Test.YtipphdadibdifaaBerAwake
namespace Go.Proofs.Ytipphdadibdifaa
open Go.RowKit
open Go.PlainAid

theorem bk_below {w w' : World} {g : Nat} {t : TypeId} {cs : Array Value} (h : Bk w g t cs) (hb : Below w.heap.size w w') : Bk w' g t cs := (hb.block g h.lt).trans h

/-- Five cells of a block known whole. -/
theorem Bk.five {w : World} {g : Nat} {t : TypeId} {c0 c1 c2 c3 c4 : Value} (h : Bk w g t #[c0, c1, c2, c3, c4]) :
    w.cell? ⟨g, 0, none⟩ = some c0 ∧ w.cell? ⟨g, 1, none⟩ = some c1 ∧ w.cell? ⟨g, 2, none⟩ = some c2 ∧ w.cell? ⟨g, 3, none⟩ = some c3 ∧ w.cell? ⟨g, 4, none⟩ = some c4 :=
  ⟨by simpa using h.cell 0, by simpa using h.cell 1, by simpa using h.cell 2, by simpa using h.cell 3, by simpa using h.cell 4⟩

theorem bool_cases (k : Bool) (b : ByteArray) : ∃ _ _ : Nat, (k = true ∧ boolOf k b = (false, 4)) ∨ (k = false ∧ boolOf k b = (false, 0) ∧ (b.toList == [0]) = true ∧ (b.toList == [255]) = false) ∨
    (k = false ∧ boolOf k b = (true, 0) ∧ (b.toList == [0]) = false ∧ (b.toList == [255]) = true) ∨ (k = false ∧ boolOf k b = (false, 4) ∧ (b.toList == [0]) = false ∧ (b.toList == [255]) = false) := by
  refine ⟨0, 0, ?_⟩
  unfold boolOf
  cases k with
  | true => exact Or.inl ⟨rfl, rfl⟩
  | false =>
    right
    rw [if_neg (by simp)]
    cases h0 : b.toList == [0] with
    | true =>
      left
      rw [if_pos rfl]
      refine ⟨rfl, rfl, rfl, ?_⟩
      have : b.toList = [0] := by simpa using h0
      rw [this]
      decide
    | false =>
      right
      rw [if_neg (by simp)]
      cases h1 : b.toList == [255] with
      | true => exact Or.inl ⟨rfl, by rw [if_pos rfl], rfl, rfl⟩
      | false => exact Or.inr ⟨rfl, by rw [if_neg (by simp)], rfl, rfl⟩

theorem i64_bounds {n : Int} (h : (Lit.int .i64 n).wf = true) : -9223372036854775808 ≤ n ∧ n ≤ 9223372036854775807 := by
  have e : IntKind.i64.min = -9223372036854775808 := by decide
  simp [Lit.wf] at h
  rw [e] at h
  exact h

set_option maxRecDepth 100000 in
set_option maxHeartbeats 2000000 in
theorem berNumbers_walk (class_ tag n : Int) (x : Bool) (t : Tl) (cs : Array Value) (w : World) (hn : (Lit.int .i64 n).wf = true) (ht : TlAt w (fun _ => True) t cs) :
    Calls Try.prog 6 #[.int .i64 class_, .int .i64 tag, .int .i64 n, .bool x, .agg cs] w (Holds w) := by
  obtain ⟨hn1, hn2⟩ := i64_bounds hn
  have ht0 := ht
  obtain ⟨tc, tk, tg, tb, tks⟩ := t
  unfold TlAt at ht
  obtain ⟨A, cap, rfl, hks, hwc, hwg, hbs, hk⟩ := ht
  have HT := Lib.hid ht0
  clear hn hk ht0 hwc hwg
  have H1 := Lib.hid awake25
  go_enter Try.func6, Try.ntmps6
  go_wp2_with fail
  have hbk0 := Bk.new w 44 #[.int .i64 tc, .bool tk, .int .i64 tg, .string tb, .slice A tks.length cap]
  have hbl0 := (Below.refl w.heap.size w).alloc (Nat.le_refl _) (.cells #[.int .i64 tc, .bool tk, .int .i64 tg, .string tb, .slice A tks.length cap] 44)
  generalize w.alloc (.cells #[.int .i64 tc, .bool tk, .int .i64 tg, .string tb, .slice A tks.length cap] 44) = w0 at *
  refine (H1.out _).mono ?_
  rintro e w1 ⟨rfl, hb1⟩
  have hbk1 := bk_below hbk0 hb1
  have hbl1 := hbl0.trans (hb1.mono hbl0.size)
  obtain ⟨z0, z1, z2, z3, z4⟩ := hbk1.five
  have hw := Tl.weigh_le (.mk tc tk tg tb tks) 0 1 (by omega)
  have HW := Lib.hid (weigh_any _ _ (.mk tc tk tg tb tks) _ 0 1 w1 (Nat.le_refl _) (TlAt.below hbl1 _ _ HT.out) (by omega) (by omega))
  generalize (Tl.mk tc tk tg tb tks).weigh 0 1 = wg at HW hw
  clear hbk0 hbl0 hb1
  by_cases h30 : 30000 < wg
  · have q1 : decide ((30000 : Int) < wg) = true := by simp; omega
    go_wp2_with (go_at_call 19; refine HW.out.mono ?_; rintro e w2 ⟨rfl, hb2⟩)
    go_ret
    exact ⟨rfl, hbl1.trans (hb2.mono hbl1.size)⟩
  · have q1 : decide ((30000 : Int) < wg) = false := by simp; omega
    clear h30
    have H2 := Lib.hid fun W : World => ofNumber_any class_ tag n W hn1 hn2
    have H3 := Lib.hid fun W : World => ofBool_any class_ tag x W
    go_wp2_with (first | (go_at_call 19; refine HW.out.mono ?_; rintro e w2 ⟨rfl, hb2⟩) | (go_at_call 20; refine (H2.out _).mono ?_; rintro e w3 ⟨⟨b, rfl, hb8, hsg, hnum, -⟩, hb3⟩; unfold flat))
    have hbl2 := hbl1.trans (hb2.mono hbl1.size)
    have hbl3 := hbl2.trans (hb3.mono hbl2.size)
    have hbk3 := bk_below (bk_below hbk1 hb2) hb3
    clear hbk1 hbl1 hb2 hb3 hbl2 z0 z1 z2 z3 z4
    have hbx := Bk.new w3 44 #[.int .i64 class_, .bool false, .int .i64 tag, .string b, .slice none 0 0]
    have hbt := hbk3.alloc (.cells #[.int .i64 class_, .bool false, .int .i64 tag, .string b, .slice none 0 0] 44)
    have hbl4 := hbl3.alloc hbl3.size (.cells #[.int .i64 class_, .bool false, .int .i64 tag, .string b, .slice none 0 0] 44)
    generalize w3.alloc (.cells #[.int .i64 class_, .bool false, .int .i64 tag, .string b, .slice none 0 0] 44) = w4 at *
    refine (number_yes class_ tag b none 0 0 w4 hnum).mono ?_
    rintro e w5 ⟨rfl, hb5⟩
    have hbx5 := bk_below hbx hb5
    have hbt5 := bk_below hbt hb5
    have hbl5 := hbl4.trans (hb5.mono hbl4.size)
    clear hbx hbt hbl4 hb5 hbk3 hbl3
    rw [hsg]
    go_wp2_with fail
    refine (H3.out _).mono ?_
    rintro e w6 ⟨rfl, hb6⟩
    unfold flat
    have hbx6 := bk_below hbx5 hb6
    have hbt6 := bk_below hbt5 hb6
    have hbl6 := hbl5.trans (hb6.mono hbl5.size)
    clear hbx5 hbt5 hbl5 hb6
    obtain ⟨yb, hyb⟩ : ∃ yb : ByteArray, yb = if x then ⟨#[255]⟩ else ⟨#[0]⟩ := ⟨_, rfl⟩
    rw [← hyb]
    have hyz : yb.size = 1 := by rw [hyb]; cases x <;> rfl
    have hyo : boolOf false yb = (x, 0) := by rw [hyb]; cases x <;> simp [boolOf, ByteArray.toList_eq]
    have HYZ := Lib.hid hyz
    have HYO := Lib.hid hyo
    clear hyb hyz hyo
    have hby := Bk.new w6 44 #[.int .i64 class_, .bool false, .int .i64 tag, .string yb, .slice none 0 0]
    have hbx7 := hbx6.alloc (.cells #[.int .i64 class_, .bool false, .int .i64 tag, .string yb, .slice none 0 0] 44)
    have hbt7 := hbt6.alloc (.cells #[.int .i64 class_, .bool false, .int .i64 tag, .string yb, .slice none 0 0] 44)
    have hbl7 := hbl6.alloc hbl6.size (.cells #[.int .i64 class_, .bool false, .int .i64 tag, .string yb, .slice none 0 0] 44)
    go_wp2_with fail
    generalize w6.alloc (.cells #[.int .i64 class_, .bool false, .int .i64 tag, .string yb, .slice none 0 0] 44) = w7 at *
    refine (bool_any class_ tag false yb none 0 0 w7).mono ?_
    rintro e w8 ⟨rfl, hb8'⟩
    rw [HYO.out]
    have hby8 := bk_below hby hb8'
    have hbx8 := bk_below hbx7 hb8'
    have hbt8 := bk_below hbt7 hb8'
    have hbl8 := hbl7.trans (hb8'.mono hbl7.size)
    clear hby hbx7 hbt7 hbl7 hb8' hbx6 hbt6 hbl6
    obtain ⟨y0, y1, y2, y3, y4⟩ := hby8.five
    obtain ⟨x0, x1, x2, x3, x4⟩ := hbx8.five
    obtain ⟨t0, t1, t2, t3, t4⟩ := hbt8.five
    have q2 : ((yb.size : Int) != 1) = false := by rw [HYZ.out]; rfl
    have q3 : ((x != x)) = false := by cases x <;> rfl
    go_wp2_with fail
    have hnums : ∃ q er : Int, (∀ W : World, Calls Try.prog 21 #[.agg #[.int .i64 tc, .bool tk, .int .i64 tg, .string tb, .slice A tks.length cap]] W (TellsN q er W)) ∧
        (∀ W : World, Calls Try.prog 24 #[.agg #[.int .i64 tc, .bool tk, .int .i64 tg, .string tb, .slice A tks.length cap]] W (TellsN q er W)) := by
      cases hnm : PB.isNum tk tb.data.toList with
      | false => exact ⟨0, 4, fun W => number_no _ _ _ _ _ _ _ W hbs hnm, fun W => rnumber_no _ _ _ _ _ _ _ W hbs hnm⟩
      | true =>
        have hk0 : tk = false := by cases tk with | false => rfl | true => simp [PB.isNum] at hnm
        subst hk0
        exact ⟨_, 0, fun W => number_yes _ _ _ _ _ _ W hnm, fun W => rnumber_yes _ _ _ _ _ _ W hnm⟩
    obtain ⟨nq, ne, N1, N2⟩ := hnums
    have HN2 := Lib.hid N2
    refine (N1 _).mono ?_
    rintro e w9 ⟨rfl, hb9⟩
    have hbt9 := bk_below hbt8 hb9
    have hbl9 := hbl8.trans (hb9.mono hbl8.size)
    obtain ⟨s0, s1, s2, s3, s4⟩ := hbt9.five
    clear N1 N2 y0 y1 y2 y3 y4 x0 x1 x2 x3 x4 t0 t1 t2 t3 t4 hb9 hbl8 hbt8 hbx8 hby8 q2 q3
    go_wp2_with fail
    refine (HN2.out _).mono ?_
    rintro e wa ⟨rfl, hba⟩
    have hbta := bk_below hbt9 hba
    have hbla := hbl9.trans (hba.mono hbl9.size)
    clear s0 s1 s2 s3 s4 hbt9 hbl9 hba
    obtain ⟨s0, s1, s2, s3, s4⟩ := hbta.five
    go_wp2_with fail
    refine (bool_any _ _ _ _ _ _ _ _).mono ?_
    rintro e wb ⟨rfl, hbb⟩
    have hbtb := bk_below hbta hbb
    have hblb := hbla.trans (hbb.mono hbla.size)
    clear s0 s1 s2 s3 s4 hbta hbla hbb
    obtain ⟨s0, s1, s2, s3, s4⟩ := hbtb.five
    obtain ⟨h0, h255, hbo⟩ := bool_cases tk tb
    rcases hbo with ⟨rfl, hbo⟩ | ⟨rfl, hbo, e1, e2⟩ | ⟨rfl, hbo, e1, e2⟩ | ⟨rfl, hbo, e1, e2⟩
    all_goals
      rw [hbo]
      clear hbo
      go_wp2_with fail
      go_ret
      exact ⟨rfl, hblb⟩
end Go.Proofs.Ytipphdadibdifaa
