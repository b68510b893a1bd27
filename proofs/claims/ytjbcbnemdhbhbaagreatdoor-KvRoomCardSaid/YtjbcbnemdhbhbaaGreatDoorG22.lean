import Derived.Test.YtjbcbnemdhbhbaaGreatDoorG10
import Derived.Test.YtjbcbnemdhbhbaaGreatDoorG12
import Derived.Test.YtjbcbnemdhbhbaaGreatDoorG14
namespace Go.Proofs.YtjbcbnemdhbhbaaGreatDoor
open Go.RowKit
set_option maxRecDepth 100000
set_option linter.unusedVariables false
set_option linter.unusedSimpArgs false
set_option maxHeartbeats 8000000 in
theorem search_any (n : Nat) (hn : n ≤ 1000) (g : Nat → Bool) (hg : ∀ i j, i ≤ j → g i = true → g j = true) (fc : Nat) (caps : Array Value) (w : World) (hcall : ∀ args W, Sem.run Tryz.prog (callFunc fc args) W = .ok (.enter fc args) W)
   (h : ∀ (i : Nat) (W : World), i < n → Below w.heap.size w W → Calls Tryz.prog fc (#[.int .i64 i] ++ caps) W (TellsQ (g i) W)) (p : Nat) (hp : p ≤ n) (hp1 : ∀ i, i < p → g i = false) (hp2 : ∀ i, p ≤ i → i < n → g i = true) :
   Calls Tryz.prog 234 #[.int .i64 n, .func (.func fc) #[] caps] w (fun e w' => e = .returned (.int .i64 p) ∧ Below w.heap.size w w') := by
 have H := Lib.hid h
 have HP1 := Lib.hid hp1
 have HP2 := Lib.hid hp2
 clear h hp1 hp2 hg
 go_enter Tryz.func234, Tryz.ntmps234
 go_wp2_with fail
 go_loopw [5, 6] (fun i j wr => ∃ (a b : Nat), i = .int .i64 a ∧ j = .int .i64 b ∧ a ≤ p ∧ p ≤ b ∧ b ≤ n ∧ Hid (Below w.heap.size w wr)) (fun i j _ => (intOf j).toNat - (intOf i).toNat)
 case atStart => exact ⟨0, n, rfl, rfl, Nat.zero_le _, hp, Nat.le_refl _, Lib.hid (Below.refl _ _)⟩
 case round =>
   obtain ⟨a, b, rfl, rfl, ha, hb, hbn, HB⟩ := hrel
   by_cases hlt : a < b
   · have z1 : decide ((a : Int) < (b : Int)) = true := decide_eq_true (by omega)
     have hm1 : a ≤ (a + b) / 2 := by omega
     have hm2 : (a + b) / 2 < b := by omega
     have hmn : (a + b) / 2 < n := by omega
     have hmi : (((a + b) / 2 : Nat) : Int) = ((a : Int) + (b : Int)) / 2 := by omega
     have HC := Lib.hid (H.out ((a + b) / 2) wr hmn HB.out)
     rw [hmi] at HC
     have hup : g ((a + b) / 2) = false → (a + b) / 2 < p := fun hq => by
       by_cases hh : (a + b) / 2 < p
       · exact hh
       · have := HP2.out ((a + b) / 2) (by omega) hmn
         rw [hq] at this
         cases this
     have hdn : g ((a + b) / 2) = true → p ≤ (a + b) / 2 := fun hq => by
       by_cases hh : (a + b) / 2 < p
       · have := HP1.out ((a + b) / 2) hh
         rw [hq] at this
         cases this
       · omega
     obtain ⟨q, hq⟩ : ∃ q, q = g ((a + b) / 2) := ⟨_, rfl⟩
     rw [← hq] at HC hup hdn
     clear hq hmi
     cases q
     all_goals
       have HU := Lib.hid (show _ ∧ _ from ⟨hup, hdn⟩)
       clear hup hdn
       go_wp2_with fail
       (with_reducible refine HC.out.mono ?_)
       rintro e w1 ⟨rfl, hb1⟩
       have HB1 := Lib.hid (HB.out.trans (hb1.mono HB.out.size))
       clear hb1
       go_wp2_with fail
       go_roundw
       case rel => first
         | exact ⟨(a + b) / 2 + 1, b, congrArg (Value.int .i64) (by omega), rfl, (by have := HU.out.1 (by first | rfl | trivial); omega), hb, hbn, HB1⟩
         | exact ⟨a, (a + b) / 2, rfl, congrArg (Value.int .i64) (by omega), ha, (HU.out.2 (by first | rfl | trivial)), by omega, HB1⟩
       case measure => simp [intOf]; omega
   · obtain rfl : a = p := by omega
     have z1 : decide ((a : Int) < (b : Int)) = false := decide_eq_false (by omega)
     go_wp2_with fail
     go_ret
     exact ⟨rfl, HB.out⟩
namespace Nd
theorem rise_lt {l : List Ce} (h : rise l = true) : ∀ (j i : Nat) (hj : j < l.length) (hi : i < j), lt (l[i]'(by omega)).key l[j].key = true := by
 intro j
 induction j with
 | zero => intro i hj hi; omega
 | succ j ih =>
   intro i hj hi
   have h1 := rise_at h j hj
   by_cases e : i = j
   · subst e; exact h1
   · exact lt_trans (ih i (by omega) (by omega)) h1
theorem right_rise {leaf : Bool} {l : List Ce} (h : right leaf l = true) : rise l = true := by
 unfold right at h
 simp only [Bool.and_eq_true] at h
 exact h.2.2
theorem spot_below (l : List Ce) (key : ByteArray) (i : Nat) (h : i < spot l key) (hl : i < l.length) : lt l[i].key key = true := by
 unfold spot at h
 have := List.not_of_lt_findIdx h
 simpa using this
theorem spot_at (l : List Ce) (key : ByteArray) (hl : spot l key < l.length) : lt l[spot l key].key key = false := by
 have := List.findIdx_getElem (w := hl) (p := fun c : Ce => !lt c.key key) (xs := l)
 cases hh : lt l[spot l key].key key with
 | false => rfl
 | true =>
   have h2 : lt (l[List.findIdx (fun c : Ce => !lt c.key key) l]'hl).key key = true := hh
   simp [h2] at this
theorem spot_above {l : List Ce} (hr : rise l = true) (key : ByteArray) (i : Nat) (h : spot l key ≤ i) (hl : i < l.length) : lt l[i].key key = false := by
 have h0 := spot_at l key (by omega)
 by_cases e : i = spot l key
 · subst e; exact h0
 · have h1 := rise_lt hr i (spot l key) hl (by omega)
   exact lt_asymm (Tr.le_lt h0 h1)
end Nd
set_option maxHeartbeats 8000000 in
theorem seekc_any {w : World} {b1 b2 b3 : Nat} (leaf : Bool) (l : List Ce) (key : ByteArray) (hr : Nd.right leaf l = true) (hs : Nd.sum leaf l ≤ 488) (h1 : Bk w b1 4 #[.bool leaf]) (h2 : Bk w b2 9 #[.string (Nd.str leaf l)]) (h3 : Bk w b3 9 #[.string key]) (i : Nat) (hi : i < l.length) :
   Calls Tryz.prog 235 #[.int .i64 i, .pointer (some ⟨b1, 0, none⟩), .pointer (some ⟨b2, 0, none⟩), .pointer (some ⟨b3, 0, none⟩)] w (TellsQ (!Nd.lt l[i].key key) w) := by
 have HG := Lib.hid fun (W : World) => get_ok leaf l i W hr hs hi
 have c1 := h1.cell 0
 have c2 := h2.cell 0
 have H3 := Lib.hid h3
 have l1 := h1.lt
 have l2 := h2.lt
 have l3 := h3.lt
 obtain ⟨x, hx⟩ : ∃ x, x = l[i] := ⟨_, rfl⟩
 rw [← hx] at HG ⊢
 obtain ⟨s, hs9⟩ : ∃ s, s = Nd.str leaf l := ⟨_, rfl⟩
 rw [← hs9] at HG c2
 obtain ⟨q, hq⟩ : ∃ q, q = Nd.lt x.key key := ⟨_, rfl⟩
 have y1 : Op.bytesLess x.key.toList key.toList = q := hq.symm
 rw [← hq]
 clear h1 h2 h3 hx hs9 hq hr hs hi
 go_enter Tryz.func235, Tryz.ntmps235
 go_wp2_with fail
 refine (HG.out _).mono ?_
 rintro e w1 ⟨rfl, hb1⟩
 have c3 := (bk_below H3.out hb1).cell 0
 have l31 := (bk_below H3.out hb1).lt
 have HB := Lib.hid hb1
 clear hb1
 cases q
 all_goals
   go_wp2_with fail
   go_ret
   exact ⟨rfl, HB.out.alloc HB.out.size _⟩
namespace Nd
def low (l : List Ce) (key : ByteArray) : Nat := if has l key then spot l key else spot l key - 1
def SeekWay (leaf : Bool) (l : List Ce) (key : ByteArray) (c : Ce) : Prop := if leaf then has l key = true → l[spot l key]? = some c else l[low l key]? = some c
end Nd
def TellsSk (leaf : Bool) (l : List Ce) (key : ByteArray) (w : World) (e : Ending) (w' : World) : Prop := Below w.heap.size w w' ∧ ∃ (i : Int) (c : Ce), e = .returned (.tuple #[.int .i64 i, .agg #[.string c.key, .string c.val, .int .i64 c.over, .int .i64 c.size, .int .i64 c.child], .bool (Nd.has l key)]) ∧ Hid (Nd.SeekWay leaf l key c)
structure Sk (w : World) (leaf : Bool) (s key : ByteArray) (W : World) : Prop where
 b1 : Bk W w.heap.size 4 #[.bool leaf]
 b2 : Bk W (w.heap.size + 1) 9 #[.string s]
 b3 : Bk W (w.heap.size + 1 + 1) 9 #[.string key]
 b4 : Bk W (w.heap.size + 1 + 1 + 1) 170 #[.string ⟨#[]⟩, .string ⟨#[]⟩, .int .i64 0, .int .i64 0, .int .i64 0]
 old : Below w.heap.size w W
theorem Sk.keep {w : World} {leaf : Bool} {s key : ByteArray} {W W' : World} (h : Sk w leaf s key W) (hb : Below W.heap.size W W') : Sk w leaf s key W' :=
 ⟨bk_below h.b1 hb, bk_below h.b2 hb, bk_below h.b3 hb, bk_below h.b4 hb, h.old.trans (hb.mono h.old.size)⟩
theorem Sk.mk0 (w : World) (leaf : Bool) (s key : ByteArray) : Sk w leaf s key ((((w.alloc (.cells #[.bool leaf] 4)).alloc (.cells #[.string s] 9)).alloc (.cells #[.string key] 9)).alloc (.cells #[.string ⟨#[]⟩, .string ⟨#[]⟩, .int .i64 0, .int .i64 0, .int .i64 0] 170)) := by
 refine ⟨((Bk.new w _ _).alloc _).alloc _ |>.alloc _, ?_, ?_, ?_, ?_⟩
 · have := (((Bk.new (w.alloc (.cells #[.bool leaf] 4)) 9 #[.string s]).alloc (.cells #[.string key] 9)).alloc (.cells #[.string ⟨#[]⟩, .string ⟨#[]⟩, .int .i64 0, .int .i64 0, .int .i64 0] 170))
   simpa using this
 · have := ((Bk.new ((w.alloc (.cells #[.bool leaf] 4)).alloc (.cells #[.string s] 9)) 9 #[.string key]).alloc (.cells #[.string ⟨#[]⟩, .string ⟨#[]⟩, .int .i64 0, .int .i64 0, .int .i64 0] 170))
   simpa using this
 · have := Bk.new (((w.alloc (.cells #[.bool leaf] 4)).alloc (.cells #[.string s] 9)).alloc (.cells #[.string key] 9)) 170 #[.string ⟨#[]⟩, .string ⟨#[]⟩, .int .i64 0, .int .i64 0, .int .i64 0]
   simpa using this
 · refine ((((Below.refl _ w).alloc (Nat.le_refl _) _).alloc ?_ _).alloc ?_ _).alloc ?_ _
   all_goals simp
   all_goals omega
theorem Sk.put {w : World} {leaf : Bool} {s key : ByteArray} {W : World} (h : Sk w leaf s key W) {m i : Nat} (hm : w.heap.size + 1 + 1 + 1 < m) (u : Value) : Sk w leaf s key (W.setCell ⟨m, i, none⟩ u) :=
 ⟨h.b1.far (by show _ ≠ m; omega) u, h.b2.far (by show _ ≠ m; omega) u, h.b3.far (by show _ ≠ m; omega) u, h.b4.far (by show _ ≠ m; omega) u, h.old.setCell (p := ⟨m, i, none⟩) (by show _ ≤ m; omega) u⟩
def World.put5 (W : World) (m : Nat) (c : Ce) : World := ((((W.setCell ⟨m, 0, none⟩ (.string c.key)).setCell ⟨m, 1, none⟩ (.string c.val)).setCell ⟨m, 2, none⟩ (.int .i64 c.over)).setCell ⟨m, 3, none⟩ (.int .i64 c.size)).setCell ⟨m, 4, none⟩ (.int .i64 c.child)
theorem Sk.put5 {w : World} {leaf : Bool} {s key : ByteArray} {W : World} (h : Sk w leaf s key W) {m : Nat} (hm : w.heap.size + 1 + 1 + 1 < m) (c : Ce) : Sk w leaf s key (World.put5 W m c) := ((((h.put hm _).put hm _).put hm _).put hm _).put hm _
theorem bk_put5 {W : World} {m : Nat} {t : TypeId} {v0 v1 v2 v3 v4 : Value} (h : Bk W m t #[v0, v1, v2, v3, v4]) (c : Ce) : Bk (World.put5 W m c) m t #[.string c.key, .string c.val, .int .i64 c.over, .int .i64 c.size, .int .i64 c.child] := ((((h.put 0 _).put 1 _).put 2 _).put 3 _).put 4 _
set_option maxHeartbeats 16000000 in
theorem seekn_any (leaf : Bool) (l : List Ce) (key : ByteArray) (w : World) (hr : Nd.right leaf l = true) (hs : Nd.sum leaf l ≤ 488) (hz : leaf = false → Nd.has l key = true ∨ 0 < Nd.spot l key) :
   Calls Tryz.prog 180 #[.bool leaf, .string (Nd.str leaf l), .string key] w (TellsSk leaf l key w) := by
 have hsz := Nd.str_size leaf l
 have hlen := Nd.str_len leaf l
 have hct := Nd.str_count leaf l (by omega)
 have hrise := Nd.right_rise hr
 have HC := Lib.hid fun (W : World) => count_ok (Nd.str leaf l) l.length W (by omega) hct (by omega)
 have HG := Lib.hid fun (i : Nat) (hi : i < l.length) (W : World) => get_ok leaf l i W hr hs hi
 have HD := Lib.hid fun (W : World) => decode_ok leaf l W hr hs
 have HS := Lib.hid fun (W : World) (b : Nat) (h1 : Bk W b 4 #[.bool leaf]) (h2 : Bk W (b + 1) 9 #[.string (Nd.str leaf l)]) (h3 : Bk W (b + 1 + 1) 9 #[.string key]) =>
   search_any l.length (by omega) (fun i => if h : i < l.length then !Nd.lt l[i].key key else true) (fun i j hij hi => by
     by_cases hj : j < l.length
     · simp only [hj, dite_true, show i < l.length by omega] at hi ⊢
       by_cases e : i = j
       · subst e; exact hi
       · have := Nd.rise_lt hrise j i hj (by omega)
         cases hc : Nd.lt l[j].key key with
         | false => rfl
         | true => rw [Nd.lt_trans this hc] at hi; cases hi
     · simp [hj]) 235 #[.pointer (some ⟨b, 0, none⟩), .pointer (some ⟨b + 1, 0, none⟩), .pointer (some ⟨b + 1 + 1, 0, none⟩)] W (fun _ _ => by rfl) (fun i W1 hi hb => by
       have := seekc_any leaf l key hr hs (bk_below h1 hb) (bk_below h2 hb) (bk_below h3 hb) i hi
       show Calls _ _ _ _ (TellsQ (if h : i < l.length then !Nd.lt l[i].key key else true) W1)
       rw [dif_pos hi]
       exact this) (Nd.spot l key) (Nd.spot_le l key) (fun i hi => by
       have := Nd.spot_below l key i hi (by have := Nd.spot_le l key; omega)
       simp only [show i < l.length by (have := Nd.spot_le l key; omega), dite_true, this]; rfl) (fun i hi hl => by
       have := Nd.spot_above hrise key i hi hl
       simp only [hl, dite_true, this]; rfl)
 have hle := Nd.spot_le l key
 have HH := Lib.hid (show Nd.has l key = (match l[Nd.spot l key]? with | some c => c.key.toList == key.toList | none => false) from rfl)
 obtain ⟨p, hp⟩ : ∃ p, p = Nd.spot l key := ⟨_, rfl⟩
 obtain ⟨s, hs9⟩ : ∃ s, s = Nd.str leaf l := ⟨_, rfl⟩
 obtain ⟨q, hq⟩ : ∃ q, q = Nd.has l key := ⟨_, rfl⟩
 have HW := Lib.hid (show ∀ c, Nd.SeekWay leaf l key c ↔ (if leaf then q = true → l[p]? = some c else l[if q then p else p - 1]? = some c) from fun c => by rw [hq, hp]; exact Iff.rfl)
 unfold TellsSk
 rw [← hs9] at HC HG HD HS ⊢
 rw [← hp] at HS HH hz hle
 rw [← hq] at HH hz ⊢
 have hll : l.length ≤ 243 := by omega
 have HZ := Lib.hid hz
 clear hs9 hp hq hsz hlen hct hr hs hrise hz
 go_enter Tryz.func180, Tryz.ntmps180
 go_wp2_with fail
 (go_at_call 232)
 refine (HD.out _).mono ?_
 rintro e w1 ⟨hb1, A1, c1, rfl, -⟩
 have HK := Lib.hid ((Sk.mk0 w leaf s key).keep hb1)
 clear hb1
 obtain ⟨K1, K2, K3, K4, -⟩ := HK.out
 have c1 := K1.cell 0
 have c2 := K2.cell 0
 have c3 := K3.cell 0
 have l1 := K1.lt
 have l2 := K2.lt
 have l3 := K3.lt
 have l4 := K4.lt
 clear K1 K2 K3 K4
 go_wp2_with fail
 (go_at_call 233)
 refine (HC.out _).mono ?_
 rintro e w2 ⟨rfl, hb2⟩
 have HK2 := Lib.hid (HK.out.keep hb2)
 clear hb2 HK c1 c2 c3 l1 l2 l3 l4
 obtain ⟨K1, K2, K3, K4, -⟩ := HK2.out
 have HSC := Lib.hid (HS.out w2 _ K1 K2 K3)
 clear K1 K2 K3 K4
 go_wp2_with fail
 (go_at_call 234)
 refine HSC.out.mono ?_
 rintro e w3 ⟨rfl, hb3⟩
 have HK3 := Lib.hid (HK2.out.keep hb3)
 clear hb3 HK2 HSC
 obtain ⟨K1, K2, K3, K4, -⟩ := HK3.out
 have c1 := K1.cell 0
 have c2 := K2.cell 0
 have c3 := K3.cell 0
 have l1 := K1.lt
 have l2 := K2.lt
 have l3 := K3.lt
 have l4 := K4.lt
 clear K1 K2 K3 K4
 by_cases hpl : p < l.length
 · have z1 : decide ((p : Int) < (l.length : Int)) = true := decide_eq_true (by omega)
   obtain ⟨x, hx⟩ : ∃ x, x = l[p] := ⟨_, rfl⟩
   have HGP := Lib.hid (HG.out p hpl)
   rw [← hx] at HGP
   have hq : q = (x.key.toList == key.toList) := by rw [HH.out, List.getElem?_eq_getElem hpl, ← hx]
   have HX := Lib.hid (show l[p]? = some x by rw [List.getElem?_eq_getElem hpl, hx])
   clear hx
   go_wp2_with fail
   (go_at_call 236)
   refine (HGP.out _).mono ?_
   rintro e w4 ⟨rfl, hb4⟩
   obtain ⟨-, -, -, -, -, -, hn4, HKc⟩ := five_after hb4
   obtain ⟨u0, u1, u2, u3, u4, v0, v1, v2, v3, v4, ul⟩ := HKc.all5
   have HK4 := Lib.hid (HK3.out.keep hn4)
   have HC4 := Lib.hid HKc
   have d1 : w.heap.size ≠ w3.heap.size := by have := HK3.out.b1.lt; omega
   have d2 : w.heap.size + 1 ≠ w3.heap.size := by have := HK3.out.b2.lt; omega
   have d3 : w.heap.size + 1 + 1 ≠ w3.heap.size := by have := HK3.out.b3.lt; omega
   have d4 : w.heap.size + 1 + 1 + 1 ≠ w3.heap.size := by have := HK3.out.b4.lt; omega
   clear hb4 hn4 HKc c1 c2 c3 l1 l2 l3 l4
   obtain ⟨K1, K2, K3, K4, -⟩ := HK4.out
   have c1 := K1.cell 0
   have c2 := K2.cell 0
   have c3 := K3.cell 0
   have l1 := K1.lt
   have l2 := K2.lt
   have l3 := K3.lt
   have l4 := K4.lt
   clear K1 K2 K3 K4
   have HQ := Lib.hid hq
   cases q with
   | true =>
     have z2 : (x.key.toList == key.toList) = true := HQ.out.symm
     clear hq
     cases leaf
     all_goals
       go_wp2_with fail
       obtain ⟨w5, hw5⟩ : ∃ w5, w5 = World.put5 w4 w3.heap.size x := ⟨_, rfl⟩
       change Code.wp _ _ _ _ (World.put5 w4 w3.heap.size x)
       have HK5 := Lib.hid (HK4.out.put5 (by have := HK3.out.b4.lt; omega) x : Sk w _ s key (World.put5 w4 w3.heap.size x))
       have HC5 := Lib.hid (bk_put5 HC4.out x)
       rw [← hw5] at HK5 HC5 ⊢
       obtain ⟨x0, x1, x2, x3, x4, y0, y1, y2, y3, y4, x5⟩ := HC5.out.all5
       obtain ⟨r0, r1, r2, r3, r4, s0, s1, s2, s3, s4, r5⟩ := HK5.out.b4.all5
       clear u0 u1 u2 u3 u4 v0 v1 v2 v3 v4 ul c1 c2 c3 l1 l2 l3 l4 d1 d2 d3 hw5
       go_region
       go_wp2_with fail
       refine bodyPost_ret (v := .tuple #[.int .i64 (p : Int), .agg #[.string x.key, .string x.val, .int .i64 x.over, .int .i64 x.size, .int .i64 x.child], .bool true]) (by simp [results, Tryz.results180, go_sem, r0, r1, r2, r3, r4, r5]) rfl ?_
       refine ⟨?_, _, x, rfl, Lib.hid ((HW.out x).2 ?_)⟩
       · exact (((((HK5.out.old.setCell (p := ⟨w.heap.size + 1 + 1 + 1, 0, none⟩) (by simp; omega) _).setCell (p := ⟨w.heap.size + 1 + 1 + 1, 1, none⟩) (by simp; omega) _).setCell (p := ⟨w.heap.size + 1 + 1 + 1, 2, none⟩) (by simp; omega) _).setCell (p := ⟨w.heap.size + 1 + 1 + 1, 3, none⟩) (by simp; omega) _).setCell (p := ⟨w.heap.size + 1 + 1 + 1, 4, none⟩) (by simp; omega) _).drew
       · first | exact fun _ => HX.out | exact HX.out
   | false =>
     have z2 : (x.key.toList == key.toList) = false := HQ.out.symm
     clear hq
     cases leaf with
     | true =>
       go_wp2_with fail
       obtain ⟨w5, hw5⟩ : ∃ w5, w5 = World.put5 w4 w3.heap.size x := ⟨_, rfl⟩
       change Code.wp _ _ _ _ (World.put5 w4 w3.heap.size x)
       have HK5 := Lib.hid (HK4.out.put5 (by have := HK3.out.b4.lt; omega) x : Sk w _ s key (World.put5 w4 w3.heap.size x))
       have HC5 := Lib.hid (bk_put5 HC4.out x)
       rw [← hw5] at HK5 HC5 ⊢
       obtain ⟨x0, x1, x2, x3, x4, y0, y1, y2, y3, y4, x5⟩ := HC5.out.all5
       obtain ⟨r0, r1, r2, r3, r4, s0, s1, s2, s3, s4, r5⟩ := HK5.out.b4.all5
       clear u0 u1 u2 u3 u4 v0 v1 v2 v3 v4 ul c1 c2 c3 l1 l2 l3 l4 d1 d2 d3 hw5
       go_region
       go_wp2_with fail
       refine bodyPost_ret (v := .tuple #[.int .i64 (p : Int), .agg #[.string x.key, .string x.val, .int .i64 x.over, .int .i64 x.size, .int .i64 x.child], .bool false]) (by simp [results, Tryz.results180, go_sem, r0, r1, r2, r3, r4, r5]) rfl ?_
       refine ⟨?_, _, x, rfl, Lib.hid ((HW.out x).2 ?_)⟩
       · exact (((((HK5.out.old.setCell (p := ⟨w.heap.size + 1 + 1 + 1, 0, none⟩) (by simp; omega) _).setCell (p := ⟨w.heap.size + 1 + 1 + 1, 1, none⟩) (by simp; omega) _).setCell (p := ⟨w.heap.size + 1 + 1 + 1, 2, none⟩) (by simp; omega) _).setCell (p := ⟨w.heap.size + 1 + 1 + 1, 3, none⟩) (by simp; omega) _).setCell (p := ⟨w.heap.size + 1 + 1 + 1, 4, none⟩) (by simp; omega) _).drew
       · exact fun h => nomatch h
     | false =>
       have hp0 : 0 < p := (HZ.out rfl).resolve_left (by first | exact Bool.false_ne_true | (intro h; cases h))
       have hpl1 : p - 1 < l.length := by omega
       obtain ⟨y, hy⟩ : ∃ y, y = l[p - 1] := ⟨_, rfl⟩
       have HGP2 := Lib.hid (HG.out (p - 1) hpl1)
       have HY := Lib.hid (show l[p - 1]? = some y by rw [List.getElem?_eq_getElem hpl1, hy])
       rw [← hy, show ((p - 1 : Nat) : Int) = (p : Int) - 1 by omega] at HGP2
       clear hy
       go_wp2_with fail
       refine (HGP2.out _).mono ?_
       rintro e w6 ⟨rfl, hb6⟩
       have HK6 := Lib.hid ((HK4.out.put5 (by have := HK3.out.b4.lt; omega) x).keep hb6)
       have HC6 := Lib.hid (bk_below (bk_put5 HC4.out x) hb6)
       clear u0 u1 u2 u3 u4 v0 v1 v2 v3 v4 ul c1 c2 c3 l1 l2 l3 l4 hb6
       obtain ⟨u0, u1, u2, u3, u4, v0, v1, v2, v3, v4, ul⟩ := HC6.out.all5
       have c1 := HK6.out.b1.cell 0
       have c2 := HK6.out.b2.cell 0
       have c3 := HK6.out.b3.cell 0
       have l1 := HK6.out.b1.lt
       have l2 := HK6.out.b2.lt
       have l3 := HK6.out.b3.lt
       have l4 := HK6.out.b4.lt
       go_wp2_with fail
       obtain ⟨w5, hw5⟩ : ∃ w5, w5 = World.put5 w6 w3.heap.size y := ⟨_, rfl⟩
       change Code.wp _ _ _ _ (World.put5 w6 w3.heap.size y)
       have HK5 := Lib.hid (HK6.out.put5 (by have := HK3.out.b4.lt; omega) y : Sk w _ s key (World.put5 w6 w3.heap.size y))
       have HC5 := Lib.hid (bk_put5 HC6.out y)
       rw [← hw5] at HK5 HC5 ⊢
       obtain ⟨x0, x1, x2, x3, x4, y0, y1, y2, y3, y4, x5⟩ := HC5.out.all5
       obtain ⟨r0, r1, r2, r3, r4, s0, s1, s2, s3, s4, r5⟩ := HK5.out.b4.all5
       clear u0 u1 u2 u3 u4 v0 v1 v2 v3 v4 ul c1 c2 c3 l1 l2 l3 l4 d1 d2 d3 hw5
       go_region
       go_wp2_with fail
       refine bodyPost_ret (v := .tuple #[.int .i64 ((p : Int) - 1), .agg #[.string y.key, .string y.val, .int .i64 y.over, .int .i64 y.size, .int .i64 y.child], .bool false]) (by simp [results, Tryz.results180, go_sem, r0, r1, r2, r3, r4, r5]) rfl ?_
       refine ⟨?_, _, y, rfl, Lib.hid ((HW.out y).2 ?_)⟩
       · exact (((((HK5.out.old.setCell (p := ⟨w.heap.size + 1 + 1 + 1, 0, none⟩) (by simp; omega) _).setCell (p := ⟨w.heap.size + 1 + 1 + 1, 1, none⟩) (by simp; omega) _).setCell (p := ⟨w.heap.size + 1 + 1 + 1, 2, none⟩) (by simp; omega) _).setCell (p := ⟨w.heap.size + 1 + 1 + 1, 3, none⟩) (by simp; omega) _).setCell (p := ⟨w.heap.size + 1 + 1 + 1, 4, none⟩) (by simp; omega) _).drew
       · exact HY.out
 · have z1 : decide ((p : Int) < (l.length : Int)) = false := decide_eq_false (by omega)
   have hq : q = false := by rw [HH.out, List.getElem?_eq_none (by omega)]
   subst hq
   cases leaf with
   | true =>
       go_wp2_with fail
       obtain ⟨w5, hw5⟩ : ∃ w5, w5 = w3.alloc (.cells #[.string ⟨#[]⟩, .string ⟨#[]⟩, .int .i64 0, .int .i64 0, .int .i64 0] 170) := ⟨_, rfl⟩
       have HK5 := Lib.hid (HK3.out.keep ((Below.refl _ w3).alloc (Nat.le_refl _) (.cells #[.string ⟨#[]⟩, .string ⟨#[]⟩, .int .i64 0, .int .i64 0, .int .i64 0] 170)))
       have HC5 := Lib.hid (Bk.new w3 170 #[.string ⟨#[]⟩, .string ⟨#[]⟩, .int .i64 0, .int .i64 0, .int .i64 0])
       have d4 : w.heap.size + 1 + 1 + 1 ≠ w3.heap.size := by have := HK3.out.b4.lt; omega
       rw [← hw5] at HK5 HC5 ⊢
       obtain ⟨x0, x1, x2, x3, x4, y0, y1, y2, y3, y4, x5⟩ := HC5.out.all5
       obtain ⟨r0, r1, r2, r3, r4, s0, s1, s2, s3, s4, r5⟩ := HK5.out.b4.all5
       clear c1 c2 c3 l1 l2 l3 l4 hw5
       go_region
       go_wp2_with fail
       refine bodyPost_ret (v := .tuple #[.int .i64 (p : Int), .agg #[.string ⟨#[]⟩, .string ⟨#[]⟩, .int .i64 0, .int .i64 0, .int .i64 0], .bool false]) (by simp [results, Tryz.results180, go_sem, r0, r1, r2, r3, r4, r5]) rfl ?_
       refine ⟨?_, _, Ce.zero, rfl, Lib.hid ((HW.out Ce.zero).2 (fun h => nomatch h))⟩
       exact (((((HK5.out.old.setCell (p := ⟨w.heap.size + 1 + 1 + 1, 0, none⟩) (by simp; omega) _).setCell (p := ⟨w.heap.size + 1 + 1 + 1, 1, none⟩) (by simp; omega) _).setCell (p := ⟨w.heap.size + 1 + 1 + 1, 2, none⟩) (by simp; omega) _).setCell (p := ⟨w.heap.size + 1 + 1 + 1, 3, none⟩) (by simp; omega) _).setCell (p := ⟨w.heap.size + 1 + 1 + 1, 4, none⟩) (by simp; omega) _).drew
   | false =>
       have hp0 : 0 < p := (HZ.out rfl).resolve_left (by first | exact Bool.false_ne_true | (intro h; cases h))
       have hpl1 : p - 1 < l.length := by omega
       obtain ⟨y, hy⟩ : ∃ y, y = l[p - 1] := ⟨_, rfl⟩
       have HGP2 := Lib.hid (HG.out (p - 1) hpl1)
       have HY := Lib.hid (show l[p - 1]? = some y by rw [List.getElem?_eq_getElem hpl1, hy])
       rw [← hy, show ((p - 1 : Nat) : Int) = (p : Int) - 1 by omega] at HGP2
       clear hy
       go_wp2_with fail
       refine (HGP2.out _).mono ?_
       rintro e w6 ⟨rfl, hb6⟩
       obtain ⟨-, -, -, -, -, -, hn6, HKc⟩ := five_after hb6
       have HK6 := Lib.hid (HK3.out.keep hn6)
       have HC6 := Lib.hid HKc
       have d1 : w.heap.size ≠ w3.heap.size := by have := HK3.out.b1.lt; omega
       have d2 : w.heap.size + 1 ≠ w3.heap.size := by have := HK3.out.b2.lt; omega
       have d3 : w.heap.size + 1 + 1 ≠ w3.heap.size := by have := HK3.out.b3.lt; omega
       have d4 : w.heap.size + 1 + 1 + 1 ≠ w3.heap.size := by have := HK3.out.b4.lt; omega
       clear c1 c2 c3 l1 l2 l3 l4 hb6 hn6 HKc
       obtain ⟨u0, u1, u2, u3, u4, v0, v1, v2, v3, v4, ul⟩ := HC6.out.all5
       have c1 := HK6.out.b1.cell 0
       have c2 := HK6.out.b2.cell 0
       have c3 := HK6.out.b3.cell 0
       have l1 := HK6.out.b1.lt
       have l2 := HK6.out.b2.lt
       have l3 := HK6.out.b3.lt
       have l4 := HK6.out.b4.lt
       go_wp2_with fail
       obtain ⟨w5, hw5⟩ : ∃ w5, w5 = World.put5 w6 w3.heap.size y := ⟨_, rfl⟩
       change Code.wp _ _ _ _ (World.put5 w6 w3.heap.size y)
       have HK5 := Lib.hid (HK6.out.put5 (by have := HK3.out.b4.lt; omega) y : Sk w _ s key (World.put5 w6 w3.heap.size y))
       have HC5 := Lib.hid (bk_put5 HC6.out y)
       rw [← hw5] at HK5 HC5 ⊢
       obtain ⟨x0, x1, x2, x3, x4, y0, y1, y2, y3, y4, x5⟩ := HC5.out.all5
       obtain ⟨r0, r1, r2, r3, r4, s0, s1, s2, s3, s4, r5⟩ := HK5.out.b4.all5
       clear u0 u1 u2 u3 u4 v0 v1 v2 v3 v4 ul c1 c2 c3 l1 l2 l3 l4 d1 d2 d3 hw5
       go_region
       go_wp2_with fail
       refine bodyPost_ret (v := .tuple #[.int .i64 ((p : Int) - 1), .agg #[.string y.key, .string y.val, .int .i64 y.over, .int .i64 y.size, .int .i64 y.child], .bool false]) (by simp [results, Tryz.results180, go_sem, r0, r1, r2, r3, r4, r5]) rfl ?_
       refine ⟨?_, _, y, rfl, Lib.hid ((HW.out y).2 ?_)⟩
       · exact (((((HK5.out.old.setCell (p := ⟨w.heap.size + 1 + 1 + 1, 0, none⟩) (by simp; omega) _).setCell (p := ⟨w.heap.size + 1 + 1 + 1, 1, none⟩) (by simp; omega) _).setCell (p := ⟨w.heap.size + 1 + 1 + 1, 2, none⟩) (by simp; omega) _).setCell (p := ⟨w.heap.size + 1 + 1 + 1, 3, none⟩) (by simp; omega) _).setCell (p := ⟨w.heap.size + 1 + 1 + 1, 4, none⟩) (by simp; omega) _).drew
       · exact HY.out
end Go.Proofs.YtjbcbnemdhbhbaaGreatDoor
