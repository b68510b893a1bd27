/- Contract of the reference's Value: values within a value; the whole contract. -/
import Derived.Test.YtipphdadibdifaaRefValue
namespace Go.Proofs.Ytipphdadibdifaa
open Go.RowKit
open Go.PlainAid

theorem cut_cut (s : ByteArray) (p sp : Nat) (_h : p + sp ≤ s.size) : s.extract p (p + sp) = (s.extract p s.size).extract 0 sp := by
  refine str_eq ?_
  rw [extract_list, extract_list, extract_list, List.take_of_length_le (l := s.data.toList.drop p) (i := s.size - p) (by rw [List.length_drop, len_size]; omega)]
  simp

theorem cut_rest (s : ByteArray) (p sp : Nat) (h : p + sp ≤ s.size) : s.extract (p + sp) s.size = (s.extract p s.size).extract sp (s.extract p s.size).size := by
  refine str_eq ?_
  have h1 : (s.extract p s.size).size = s.size - p := by rw [ByteArray.size_extract]; omega
  rw [extract_list, extract_list, extract_list, h1, List.take_of_length_le (l := s.data.toList.drop p) (by rw [List.length_drop, len_size]; omega), List.take_of_length_le (by rw [List.length_drop, len_size]; omega), List.drop_drop, List.take_of_length_le (by rw [List.length_drop, len_size]; omega)]

theorem ne_zero {er : Nat} (h : er ≠ 0) : ((er : Int) != 0) = true := by simp; omega

theorem five_alloc {w4 : World} {b : Nat} {t : TypeId} {c0 c1 c2 c3 c4 : Value} (h : Bk w4 b t #[c0, c1, c2, c3, c4]) :
    (∀ x : Obj, (w4.alloc x).cell? ⟨b, 0, none⟩ = some c0) ∧ (∀ x : Obj, (w4.alloc x).cell? ⟨b, 1, none⟩ = some c1) ∧ (∀ x : Obj, (w4.alloc x).cell? ⟨b, 2, none⟩ = some c2) ∧ (∀ x : Obj, (w4.alloc x).cell? ⟨b, 3, none⟩ = some c3) ∧ (∀ x : Obj, (w4.alloc x).cell? ⟨b, 4, none⟩ = some c4) ∧
    (∀ x : Obj, (w4.alloc x).frozen? ⟨b, 0, none⟩ = false) ∧ (∀ x : Obj, (w4.alloc x).frozen? ⟨b, 1, none⟩ = false) ∧ (∀ x : Obj, (w4.alloc x).frozen? ⟨b, 2, none⟩ = false) ∧ (∀ x : Obj, (w4.alloc x).frozen? ⟨b, 3, none⟩ = false) ∧ (∀ x : Obj, (w4.alloc x).frozen? ⟨b, 4, none⟩ = false) :=
  ⟨fun x => (h.alloc x).cell 0, fun x => (h.alloc x).cell 1, fun x => (h.alloc x).cell 2, fun x => (h.alloc x).cell 3, fun x => (h.alloc x).cell 4, fun x => (h.alloc x).frozen 0, fun x => (h.alloc x).frozen 1, fun x => (h.alloc x).frozen 2, fun x => (h.alloc x).frozen 3, fun x => (h.alloc x).frozen 4⟩

set_option maxRecDepth 100000 in
set_option maxHeartbeats 4000000 in
theorem rvalue_cons (s : ByteArray) (d k : Nat) (w : World) (hd : d + k = 16) (hs : s.size ≤ 8192) (h : ¬ ((PB.head s.data.toList).2.2 ≠ 0 ∨ PB.span s.data.toList ≠ s.size)) (hc : ¬ PB.byt s.data.toList 0 / 32 % 2 = 0)
    (ih : ∀ k', k = k' + 1 → ∀ (s : ByteArray) (d : Nat) (w : World), d + k' = 16 → s.size ≤ 8192 → Calls Try.prog 41 #[.string s, .int .i64 d] w (RValPost (PB.val k' s.data.toList) w)) :
    Calls Try.prog 41 #[.string s, .int .i64 d] w (RValPost (PB.val k s.data.toList) w) := by
  obtain ⟨i0, hi, hz0, hz1, hz2⟩ := info_parts info_tlv
  have hl := PB.head_le s.data.toList
  have hv : PB.val k s.data.toList = match PB.kidsOf (PB.sub k) s.size (s.data.toList.drop (PB.head s.data.toList).1) with
      | .error e => .error e
      | .ok ts => .ok (.mk (PB.byt s.data.toList 0 / 64 : Nat) true (PB.byt s.data.toList 0 % 32 : Nat) ByteArray.empty ts) := by
    rw [PB.val_eq]
    unfold PB.valOf
    rw [len_size, if_neg h, if_neg hc]
    cases PB.kidsOf (PB.sub k) s.size (s.data.toList.drop (PB.head s.data.toList).1) <;> rfl
  have hft := PB.head_fits s.data.toList (by omega)
  rw [len_size] at hft
  unfold PB.span at h
  have HH := Lib.hid fun W : World => rhead_any s W (by unfold maxLen; omega)
  have h0 : 0 < s.size := by omega
  have hg := get_bt s 0 h0
  have tb := byt_bt s 0
  have hb0 := PB.byt_lt s.data.toList 0
  rw [tb] at hg
  generalize PB.byt s.data.toList 0 = b0 at *
  generalize PB.head s.data.toList = p at hl HH h hft hv
  obtain ⟨a, n, er⟩ := p
  dsimp only at hl HH h hft hv
  obtain ⟨hl1, hl2⟩ := hl
  obtain rfl : er = 0 := by omega
  have HH := Lib.hid (show ∀ W : World, Calls Try.prog 43 #[.string s] W (Tells3 (a : Int) (n : Int) 0 W) from HH.out)
  have h2 : ((a : Int) + n != (s.size : Int)) = false := by simp; omega
  have hw : IntKind.i64.wrap ((a : Int) + n) = (a : Int) + n := IntWalk.i64_in _ (by omega)
  have e1 : Int.tdiv (b0 : Int) 64 = (b0 : Int) / 64 := Int.tdiv_eq_ediv_of_nonneg (by omega)
  have e3 : Int.tmod (b0 : Int) 32 = (b0 : Int) % 32 := Int.tmod_eq_emod_of_nonneg (by omega)
  have e4 : Int.tdiv (b0 : Int) 32 = (b0 : Int) / 32 := Int.tdiv_eq_ediv_of_nonneg (by omega)
  have e5 : Int.tmod ((b0 : Int) / 32) 2 = (b0 : Int) / 32 % 2 := Int.tmod_eq_emod_of_nonneg (by omega)
  have e6 : ((b0 : Int) / 32 % 2 == 1) = true := by simp; omega
  have hrs : (s.extract a s.size).data.toList = s.data.toList.drop a := by rw [extract_list, List.take_of_length_le (by rw [List.length_drop, len_size]; omega)]
  have hrz : (s.extract a s.size).size ≤ s.size := by rw [ByteArray.size_extract]; omega
  have HRS := Lib.hid hrs
  have HV := Lib.hid hv
  have IH := Lib.hid ih
  clear hv tb hc hrs ih
  go_enter Try.func41, Try.ntmps41
  go_wp2_with (go_at_call 43; refine (HH.out _).mono ?_; rintro e w' ⟨rfl, nq, rfl⟩)
  go_region
  go_wp2_with fail
  have hstart := valAt_start k w b0 (nq + 1) _ s.size _ HRS.out hrz
  clear e1 e3 e4 e5 e6 hw h2
  go_loopw [6] (fun x wr => ∃ (p : Nat) (ks : List Tl) (v : Value), x = .int .i64 p ∧ p ≤ s.size ∧ ValAt k w s.size (s.data.toList.drop a) b0 (s.extract p s.size) ks v wr) (fun x _ => s.size - (intOf x).toNat)
  case atStart => exact ⟨a, [], _, rfl, by omega, hstart⟩
  case round =>
    clear hstart
    obtain ⟨p, ks, v, rfl, hps, hat⟩ := hrel
    obtain ⟨g1, g2, g3, g4, g5, g6, g7⟩ := hat
    have G1 := Lib.hid g1
    clear g1
    have hws := g7.size
    obtain ⟨z0, z1, z2, z3, z4⟩ := g4.five
    obtain ⟨y0, y1, y2, y3, y4⟩ := g5.five
    have fz0 := g4.frozen 0
    have fz1 := g4.frozen 1
    have fz2 := g4.frozen 2
    have fz3 := g4.frozen 3
    have fz4 := g4.frozen 4
    have fy4 := g5.frozen 4
    have hrsz : (s.extract p s.size).size = s.size - p := by rw [ByteArray.size_extract]; omega
    by_cases hr0 : p = s.size
    · have he0 : s.extract p s.size = ByteArray.empty := ByteArray.size_eq_zero_iff.mp (by omega)
      rw [he0] at G1
      clear he0
      have t0 : decide ((p : Int) < s.size) = false := by simp; omega
      have t1 : s.size ≤ p := by omega
      obtain ⟨A, cap, rfl, hkl, hkids⟩ := g6.kids
      have HVO := Lib.hid (valAt_ok G1.out HV.out)
      have HKD := Lib.hid hkids
      clear hkids g6
      go_wp2_with fail
      refine bodyPost_ret (v := .tuple #[.agg #[.int .i64 ((b0 : Int) / 64), .bool true, .int .i64 ((b0 : Int) % 32), .string ⟨#[]⟩, .slice A ks.length cap], .int .i64 0]) ?_ rfl (rvalPost_ok HVO.out ?_ ?_)
      · simp [results, Try.results41, go_sem, z0, z1, z2, z3, z4]
      · exact below_cells g7 _ _ _ _ _
      · exact tlAt_cons b0 hb0 hkl (kids_cells HKD.out)
    · have t0 : decide ((p : Int) < s.size) = true := by simp; omega
      have t1 : p < s.size := by omega
      cases k with
      | zero =>
        have t16 : ((d : Int) == 16) = true := by simp; omega
        have HVE := Lib.hid (valAt_err G1.out HV.out (PB.kidsOf_deep s.size (s.extract p s.size).data.toList (by rw [len_size]; omega) (by rw [len_size]; omega)))
        go_wp2_with fail
        refine bodyPost_ret (v := .tuple #[.agg (flat 0 0 ⟨#[]⟩), .int .i64 13]) ?_ rfl (rvalPost_err HVE.out (by decide) ?_)
        · simp [results, Try.results41, go_sem, flat, z0, z1, z2, z3, z4]
        · exact below_cells g7 _ _ _ _ _
      | succ k =>
        have t16 : ((d : Int) == 16) = false := by simp; omega
        have HRH := Lib.hid fun W : World => rhead_any (s.extract p s.size) W (by unfold maxLen; omega)
        have hsl := PB.head_le (s.extract p s.size).data.toList
        generalize hrest : s.extract p s.size = rest at *
        by_cases hb : (PB.head rest.data.toList).2.2 ≠ 0 ∨ rest.size < PB.span rest.data.toList
        · have HVE := Lib.hid (valAt_err G1.out HV.out (PB.kidsOf_form (PB.val k) s.size rest.data.toList (by rw [len_size]; omega) (by rw [len_size]; omega) (by rw [len_size]; exact hb)))
          unfold PB.span at hb
          generalize PB.head rest.data.toList = q at HRH hb hsl
          obtain ⟨fr, m, er⟩ := q
          dsimp only at HRH hb hsl
          obtain ⟨hs1, hs2⟩ := hsl
          by_cases he : er = 0
          · subst he
            have HRH := Lib.hid (show ∀ W : World, Calls Try.prog 43 #[.string rest] W (Tells3 (fr : Int) (m : Int) 0 W) from HRH.out)
            have u1 : IntKind.i64.wrap ((p : Int) + fr) = (p : Int) + fr := IntWalk.i64_in _ (by omega)
            have u2 : IntKind.i64.wrap ((p : Int) + fr + m) = (p : Int) + fr + m := IntWalk.i64_in _ (by omega)
            have u3 : decide ((s.size : Int) < (p : Int) + fr + m) = true := by simp; omega
            go_wp2_with (go_at_call 43; refine (HRH.out _).mono ?_; rintro e w' ⟨rfl, n3, rfl⟩)
            refine bodyPost_ret (v := .tuple #[.agg (flat 0 0 ⟨#[]⟩), .int .i64 4]) ?_ rfl (rvalPost_err HVE.out (by decide) ?_)
            · simp [results, Try.results41, go_sem, flat, z0, z1, z2, z3, z4]
            · exact below_cells (below_drewN g7 _) _ _ _ _ _
          · have u3 : ((er : Int) != 0) = true := by simp; omega
            go_wp2_with (go_at_call 43; refine (HRH.out _).mono ?_; rintro e w' ⟨rfl, n3, rfl⟩)
            refine bodyPost_ret (v := .tuple #[.agg (flat 0 0 ⟨#[]⟩), .int .i64 4]) ?_ rfl (rvalPost_err HVE.out (by decide) ?_)
            · simp [results, Try.results41, go_sem, flat, z0, z1, z2, z3, z4]
            · exact below_cells (below_drewN g7 _) _ _ _ _ _
        · have hsp : PB.span rest.data.toList ≤ rest.size := by omega
          have hsp0 : 2 ≤ PB.span rest.data.toList := PB.span_pos _ (by omega)
          have hspn : PB.span rest.data.toList = (PB.head rest.data.toList).1 + (PB.head rest.data.toList).2.1 := rfl
          have HSN := Lib.hid (show PB.span rest.data.toList = PB.span rest.data.toList from rfl)
          generalize PB.span rest.data.toList = sp at hsp hsp0 hspn
          have HE0 := Lib.hid hspn
          generalize hq : PB.head rest.data.toList = q at HRH hb hsl hspn
          have HQ := Lib.hid hq
          clear hq
          obtain ⟨fr, m, er⟩ := q
          dsimp only at HRH hb hsl hspn
          obtain ⟨hs1, hs2⟩ := hsl
          obtain rfl : er = 0 := by omega
          have HRH := Lib.hid (show ∀ W : World, Calls Try.prog 43 #[.string rest] W (Tells3 (fr : Int) (m : Int) 0 W) from HRH.out)
          have u3 : decide ((s.size : Int) < (p : Int) + fr + m) = false := by simp; omega
          have u4 : p + fr + m ≤ s.size := by omega
          have hpz : (rest.extract 0 sp).size ≤ 8192 := by rw [ByteArray.size_extract]; omega
          have hcc : s.extract p (p + fr + m) = rest.extract 0 sp := by rw [← hrest, show p + fr + m = p + sp by omega]; exact cut_cut s p sp (by omega)
          have HCC := Lib.hid hcc
          clear hcc
          have HC := fun W : World => IH.out k rfl (rest.extract 0 sp) (d + 1) W (by omega) hpz
          rw [Int.natCast_add] at HC
          have hwrap : IntKind.i64.wrap ((d : Int) + 1) = (d : Int) + 1 := IntWalk.i64_in _ (by omega)
          cases hval : PB.val k (rest.extract 0 sp).data.toList with
          | error er =>
            rw [hval] at HC
            have HC2 := Lib.hid HC
            have hsn : PB.span rest.data.toList = sp := by unfold PB.span; rw [HQ.out, hspn]
            have HVE := Lib.hid (valAt_err G1.out HV.out (PB.kidsOf_err (PB.val k) s.size rest.data.toList er (by rw [len_size]; omega) (by rw [len_size]; omega) (by rw [len_size, hsn, HQ.out]; dsimp only; omega) (by rw [hsn, ← hval, extract_list]; simp)))
            clear HC hval hsn
            go_wp2_with (first
              | (go_at_call 43; refine (HRH.out _).mono ?_; rintro e w' ⟨rfl, n3, rfl⟩)
              | (rw [HCC.out]; go_at_call 41; refine (HC2.out _).mono ?_; rintro e w4 ⟨hb4, hne, rfl⟩; unfold flat; have v3 : ((er : Int) != 0) = true := ne_zero hne; have b4 := Lib.hid ((Off.of_below hb4 []).bk (g4.drewN n3) (by simp)); have hka := five_alloc b4.out; clear z0 z1 z2 z3 z4 fz0 fz1 fz2 fz3 fz4; obtain ⟨z0, z1, z2, z3, z4, fz0, fz1, fz2, fz3, fz4⟩ := hka)
              | fail)
            refine bodyPost_ret (v := .tuple #[.agg (flat 0 0 ⟨#[]⟩), .int .i64 er]) ?_ rfl (rvalPost_err HVE.out hne ?_)
            · simp [results, Try.results41, go_sem, flat, z0, z1, z2, z3, z4]
            · exact below_cells ((valErr_below g7 hb4 rfl rfl rfl rfl).alloc (Nat.le_trans hws hb4.size) _) _ _ _ _ _
          | ok t =>
            rw [hval] at HC
            have HC2 := Lib.hid HC
            have hsn : PB.span rest.data.toList = sp := by unfold PB.span; rw [HQ.out, hspn]
            have HKN := Lib.hid (PB.kidsOf_next (PB.val k) s.size rest.data.toList t (by rw [len_size]; omega) (by rw [len_size]; omega) (by rw [len_size, hsn, HQ.out]; dsimp only; omega) (by rw [hsn, ← hval, extract_list]; simp))
            have HSP := Lib.hid hsn
            obtain ⟨xs, hown, hall⟩ := g6
            have HALL := Lib.hid hall
            have hlt1 := g5.lt
            have hvne : v.ownBlock ≠ some (w.heap.size + 1) := fun e => by have := (hown.lt _ e).1; omega
            have hdw : ∀ m : Nat, (wr.drewN m).heap.size = wr.heap.size := fun _ => rfl
            clear HC hval hsn hall
            go_wp2_with (first
              | (at_builtin; refine wpList_append_lies _ rfl (.tmp 100) (.tmp 102) 42 rfl (w.heap.size + 2) 44 i0 _ 5 64 Try.underlying42 hi hz0 hz1 hz2 rfl (by omega) v ks.length xs rfl ((hown4.alloc _).alloc _) ⟨w4.heap.size + 1, 0, none⟩ 1 1 [.int .i64 x0, .bool x1, .int .i64 x2, .string x3, .slice xA xn xc] rfl rfl (World.news_of_block (cs := #[.int .i64 x0, .bool x1, .int .i64 x2, .string x3, .slice xA xn xc]) (t := 44) (fr := (0, 0)) (by simpa using heap_alloc_new (w4.alloc _) _)) (by simp [Value.oneCell']) (by omega) (by unfold maxLen; omega) (by omega) (by simp; omega) (w4.heap.size + 1 + 1) (by simp) ?_; intro gg cap5 w5 hown5 hgrow5 hat5 hlt5; have hkg := two_grown ((fun x y => two_alloc (hka x).1 (hka x).2 (show w.heap.size + 1 < (w4.alloc x).heap.size by simp; omega) y) _ _) hgrow5 hvne (show w.heap.size + 1 < ((w4.alloc _).alloc _).heap.size by simp; omega); have hkg1 := hkg.1; have hkg2 := hkg.2)
              | (go_at_call 43; refine (HRH.out _).mono ?_; rintro e w' ⟨rfl, n3, rfl⟩)
              | (rw [HCC.out]; go_at_call 41; refine (HC2.out _).mono ?_; rintro e w4 ⟨hb4, cs, rfl, ht⟩; obtain ⟨x0, x1, x2, x3, xA, xn, xc, rfl⟩ := tlAt_form ht; have hk1 := (hb4.cell (p := ⟨w.heap.size + 1, 4, none⟩) hlt1).trans y4; have hk2 := (hb4.frozen (p := ⟨w.heap.size + 1, 4, none⟩) hlt1).trans fy4; have hown4 := own_below (w := wr.drewN n3) hown hb4; have hsz4 := hb4.size; rw [hdw] at hsz4; have hka := two_alloc hk1 hk2 (show w.heap.size + 1 < w4.heap.size by omega); have hka1 := fun o => (hka o).1; have hka2 := fun o => (hka o).2)
              | fail)
            have hb4' := hb4.alloc hb4.size (.cells #[.int .i64 x0, .bool x1, .int .i64 x2, .string x3, .slice xA xn xc] 44)
            have ht' := TlAt.below ((Below.refl _ _).alloc (Nat.le_refl _) (.cells #[.int .i64 x0, .bool x1, .int .i64 x2, .string x3, .slice xA xn xc] 44)) _ _ ht
            have hnx := valAt_next (sp := sp) G1.out HKN.out HSP.out hsp hsp0 g2 g3 g4 g5 g7 hown HALL.out hb4' rfl rfl rfl rfl ht' hown5 hgrow5 (by simpa using hat5)
            refine ⟨⟨p + sp, ks ++ [t], .slice (some ⟨gg, 0, none⟩) (ks.length + 1) cap5, ?_, by omega, ?_⟩, ?_⟩
            · congr 1
              omega
            · rw [cut_rest s p sp (by omega), hrest]
              exact hnx
            · simp only [intOf]
              omega

theorem rvalue_any (k : Nat) : ∀ (s : ByteArray) (d : Nat) (w : World), d + k = 16 → s.size ≤ 8192 → Calls Try.prog 41 #[.string s, .int .i64 d] w (RValPost (PB.val k s.data.toList) w) := by
  induction k with
  | zero =>
    intro s d w hd hs
    by_cases h : (PB.head s.data.toList).2.2 ≠ 0 ∨ PB.span s.data.toList ≠ s.size
    · exact rvalue_no s d 0 w (by omega) h
    by_cases hc : PB.byt s.data.toList 0 / 32 % 2 = 0
    · exact rvalue_prim s d 0 w (by omega) h hc
    · exact rvalue_cons s d 0 w hd hs h hc (fun k' e => by omega)
  | succ k ih =>
    intro s d w hd hs
    by_cases h : (PB.head s.data.toList).2.2 ≠ 0 ∨ PB.span s.data.toList ≠ s.size
    · exact rvalue_no s d (k + 1) w (by omega) h
    by_cases hc : PB.byt s.data.toList 0 / 32 % 2 = 0
    · exact rvalue_prim s d (k + 1) w (by omega) h hc
    · exact rvalue_cons s d (k + 1) w hd hs h hc (fun k' e => by cases e; exact ih)

end Go.Proofs.Ytipphdadibdifaa
