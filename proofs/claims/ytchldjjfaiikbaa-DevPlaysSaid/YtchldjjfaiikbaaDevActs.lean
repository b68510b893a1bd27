/- Acts on a device: sector, text, does. -/
import Derived.Test.YtchldjjfaiikbaaDevCut
import Derived.Test.YtchldjjfaiikbaaDevTells
namespace Go.Proofs.Ytchldjjfaiikbaa
open Go.RowKit
open Go.PlainAid
set_option maxRecDepth 100000
set_option linter.unusedVariables false
set_option linter.unusedSimpArgs false

theorem u8s_at (L : List UInt8) (j : Nat) (h : j < L.length) : (u8s L).toArray[j]? = some (.int .u8 (L[j].toNat : Int)) := by
  unfold u8s
  simp [h]
/-- A sector of one byte. -/
def sectorB (c : UInt8) : ByteArray := ⟨(List.replicate 128 c).toArray⟩
theorem sectorB_size (c : UInt8) : (sectorB c).size = 128 := by simp [sectorB, ByteArray.size]
/-- .. while it is filled. -/
def fillRow (c : UInt8) (k : Nat) : List UInt8 := List.replicate k c ++ List.replicate (128 - k) 0
theorem fillRow_zero (c : UInt8) : (u8s (fillRow c 0)).toArray = zeros := rfl
theorem fillRow_end (c : UInt8) : fillRow c 128 = List.replicate 128 c := by simp [fillRow]
theorem fillRow_len (c : UInt8) {k : Nat} (h : k ≤ 128) : (fillRow c k).length = 128 := by simp [fillRow]; omega
theorem fillRow_step (c : UInt8) {k : Nat} (h : k < 128) : (u8s (fillRow c (k + 1))).toArray = (u8s (fillRow c k)).toArray.setIfInBounds k (.int .u8 (c.toNat : Int)) := by
  have e : fillRow c (k + 1) = (fillRow c k).set k c := by
    unfold fillRow
    obtain ⟨m, hm⟩ : ∃ m, 128 - k = m + 1 := ⟨128 - k - 1, by omega⟩
    have hm2 : 128 - (k + 1) = m := by omega
    rw [hm, hm2, List.replicate_succ', List.set_append_right _ _ (by simp), List.length_replicate, Nat.sub_self, List.replicate_succ, List.set_cons_zero, List.append_assoc]
    rfl
  rw [e]
  simp [u8s, List.map_set]

set_option maxHeartbeats 4000000 in
theorem sector_any (c : UInt8) (w : World) : Calls Try.prog 9 #[.int .u8 (c.toNat : Int)] w (TellsS (sectorB c) w) := by
  have hmk := make_zeros
  have HZ : Hid (zeros = (u8s (fillRow c 0)).toArray) := rfl
  generalize zeros = z0 at *
  go_enter Try.func9, Try.ntmps9
  go_wp2_with fail
  go_loopw [4] (fun v wr => ∃ k : Nat, k ≤ 128 ∧ v = .int .i64 (k : Int) ∧ Bk wr w.heap.size 5 (u8s (fillRow c k)).toArray ∧ Below w.heap.size w wr) (fun v _ => 128 - (intOf v).toNat)
  case atStart => exact ⟨0, by omega, rfl, by rw [← HZ.out]; exact Bk.new _ _ _, (Below.refl _ _).alloc (Nat.le_refl _) _⟩
  case round =>
    obtain ⟨k, hk, rfl, hbk, hbel⟩ := hrel
    have HBK := Lib.hid hbk
    have HBE := Lib.hid hbel
    by_cases hlt : k < 128
    · have hfr := hbk.frozen k
      have hl : k < (fillRow c k).length := by rw [fillRow_len c hk]; exact hlt
      have hc : wr.cell? ⟨w.heap.size, k, none⟩ = some (.int .u8 ((fillRow c k)[k].toNat : Int)) := by
        rw [hbk.cell k]
        simp [u8s, hl]
      clear hbk hbel
      go_wp2_with fail
      go_roundw
      case rel =>
        have hb' : Bk (wr.setCell ⟨w.heap.size, k, none⟩ (.int .u8 (c.toNat : Int))) w.heap.size 5 (u8s (fillRow c (k + 1))).toArray := by rw [fillRow_step c hlt]; exact HBK.out.put k _
        have ho' := HBE.out.setCell (p := ⟨w.heap.size, k, none⟩) (Nat.le_refl _) (.int .u8 (c.toNat : Int))
        first
          | exact ⟨k + 1, by omega, by go_num, hb', ho'⟩
          | ((repeat apply Exists.intro); exact ⟨⟨k + 1, by omega, by go_num, hb', ho'⟩, rfl⟩)
      case measure => simp [intOf]; omega
    · obtain rfl : k = 128 := by omega
      have hcv : (convert 55 9 (.slice (some ⟨w.heap.size, 0, none⟩) 128 128)).run Try.prog wr = .ok (.string (sectorB c)) wr := by
        refine conv_cells (g := w.heap.size) (o := 0) (L := List.replicate 128 c) List.length_replicate.symm (fun j hj => ?_)
        have h := hbk.cell j
        rw [fillRow_end] at h
        rw [Nat.zero_add, h]
        exact u8s_at _ j hj
      have HS : Hid (sectorB c = sectorB c) := rfl
      generalize sectorB c = sb at *
      clear hbk hbel
      go_wp2_with fail
      go_ret
      exact ⟨rfl, HBE.out⟩

/-- What is done: a kind, a sector, a number, a byte, a text, picks. -/
structure ActV where
  kind : Int
  i : Int
  n : Int
  c : UInt8
  text : ByteArray
  A : Option Addr
  picks : List Int
  cap : Nat
def ActV.cells (x : ActV) : Array Value := #[.int .i64 x.kind, .int .i64 x.i, .int .i64 x.n, .int .u8 (x.c.toNat : Int), .string x.text, .slice x.A x.picks.length x.cap]
abbrev ActV.val (x : ActV) : Value := .agg x.cells
structure ActV.Ok (w : World) (x : ActV) : Prop where
  n1 : x.n ≤ 9223372036854775807
  text : x.text.size ≤ maxLen
  len : x.picks.length ≤ maxLen
  most : ∀ p ∈ x.picks, p ≤ 9223372036854775807
  sl : Sl w x.A (x.picks.map (Value.int .i64))
theorem ActV.Ok.old {w : World} {x : ActV} (h : x.Ok w) (hn : x.picks ≠ []) : ∀ a, x.A = some a → a.block < w.heap.size := by
  intro a ha
  obtain ⟨p, l, hl⟩ := List.exists_cons_of_ne_nil hn
  obtain ⟨b, o, hA, hb, _⟩ := h.sl 0 (.int .i64 p) (by rw [hl]; rfl)
  rw [hA] at ha
  injection ha with ha
  subst ha
  exact hb
theorem ActV.Ok.off {T : List Nat} {w w' : World} {x : ActV} (h : x.Ok w) (ho : Off T w w') (hT : x.picks ≠ [] → ∀ a, x.A = some a → a.block ∉ T) : x.Ok w' := by
  refine ⟨h.n1, h.text, h.len, h.most, ?_⟩
  by_cases hn : x.picks = []
  · rw [hn]; exact Sl.nil _ _
  · exact h.sl.off ho (hT hn)
def ActV.textOf (x : ActV) : ByteArray := if x.text.toList.isEmpty then sectorB x.c else x.text
def ActV.on (x : ActV) (D : DevS) : DevS × Int :=
  if x.kind = 1 then D.write x.i x.textOf else if x.kind = 2 then D.sync else if x.kind = 3 then D.setFuse x.n else if x.kind = 4 then D.cut else if x.kind = 5 then D.start x.picks else (D, (D.read x.i).2)

set_option maxHeartbeats 4000000 in
theorem text_any (x : ActV) (w : World) : Calls Try.prog 12 #[x.val] w (TellsS x.textOf w) := by
  obtain ⟨kind, i, n, c, text, A, picks, cap⟩ := x
  unfold ActV.val ActV.cells
  simp only
  cases he : text.toList.isEmpty with
  | true =>
    have HT : Hid (ActV.textOf ⟨kind, i, n, c, text, A, picks, cap⟩ = sectorB c) := show _ = _ by unfold ActV.textOf; simp only [he, if_true]
    have he2 : text.toList = [] := by simpa using he
    have he' : (!text.toList.isEmpty) = false := by rw [he]; rfl
    go_enter Try.func12, Try.ntmps12
    go_wp2_with (go_at_call 9; refine (sector_any c _).mono ?_; rintro e w2 ⟨rfl, hb2⟩; have HB2 := Lib.hid hb2; clear hb2)
    go_ret
    exact tellsS_of HT.out ((((Below.refl _ w).alloc (Nat.le_refl _) _)).trans (HB2.out.mono (by simp)))
  | false =>
    have HT : Hid (ActV.textOf ⟨kind, i, n, c, text, A, picks, cap⟩ = text) := show _ = _ by unfold ActV.textOf; simp only [he]; rfl
    have he' : (!text.toList.isEmpty) = true := by rw [he]; rfl
    go_enter Try.func12, Try.ntmps12
    go_wp2_with fail
    go_ret
    exact tellsS_of HT.out (((Below.refl _ w).alloc (Nat.le_refl _) _))

theorem devPost_from {g : Nat} {S : List Nat} {D' : DevS} {w w1 w2 : World} (h1 : Off [] w w1) (h : ∃ S', Dev w2 g S' D' ∧ Off S w1 w2 ∧ Fresh w1 S S') : ∃ S', Dev w2 g S' D' ∧ Off S w w2 ∧ Fresh w S S' := by
  obtain ⟨S', a, b, c⟩ := h
  exact ⟨S', a, (h1.mono (by simp)).trans b, fun x hx => (c x hx).imp_right (Nat.le_trans h1.size)⟩

theorem bk_of_post {g : Nat} {S : List Nat} {D' : DevS} {w w' : World} {b : Nat} {t : TypeId} {cs : Array Value} (h : ∃ S', Dev w' g S' D' ∧ Off S w w' ∧ Fresh w S S') (hb : Bk w b t cs) (hn : b ∉ S) : Bk w' b t cs := by
  obtain ⟨S', _, p2, _⟩ := h
  exact p2.bk hb hn
def actCellsAt (W : World) (b : Nat) (x : ActV) : Prop :=
  W.cell? ⟨b, 0, none⟩ = some (.int .i64 x.kind) ∧ W.cell? ⟨b, 1, none⟩ = some (.int .i64 x.i) ∧ W.cell? ⟨b, 2, none⟩ = some (.int .i64 x.n) ∧ W.cell? ⟨b, 3, none⟩ = some (.int .u8 (x.c.toNat : Int)) ∧ W.cell? ⟨b, 4, none⟩ = some (.string x.text) ∧ W.cell? ⟨b, 5, none⟩ = some (.slice x.A x.picks.length x.cap)

set_option maxHeartbeats 4000000 in
theorem does_write {g : Nat} {S : List Nat} {D : DevS} {w : World} (hd : Dev w g S D) (x : ActV) (hx : x.Ok w) (hb : D.steps ≤ 1000000000) (hk : x.kind = 1) :
    Calls Try.prog 11 #[ptr g, x.val] w (DevPost g S (x.on D).1 (.int .i64 (x.on D).2) w) := by
  have HD := Lib.hid hd
  have HB := Lib.hid hb
  have HON : Hid (x.on D = D.write x.i x.textOf) := show _ = _ by unfold ActV.on; rw [if_pos hk]
  have HTS : Hid (x.textOf.size ≤ maxLen) := show _ ≤ _ by
    unfold ActV.textOf
    split
    · rw [sectorB_size]; decide
    · exact hx.text
  have hnb : w.heap.size ∉ S := fun h => by have := hd.old _ h; omega
  have HNB := Lib.hid hnb
  have HBK : Hid (Bk (w.alloc (.cells x.cells 33)) w.heap.size 33 x.cells) := Bk.new _ _ _
  have HT : Hid (∀ W, Calls Try.prog 12 #[x.val] W (TellsS x.textOf W)) := fun W => text_any x W
  have HKS : Hid (∀ W, Bk W w.heap.size 33 x.cells → W.cell? ⟨w.heap.size, 0, none⟩ = some (.int .i64 x.kind) ∧ W.cell? ⟨w.heap.size, 1, none⟩ = some (.int .i64 x.i) ∧ W.cell? ⟨w.heap.size, 2, none⟩ = some (.int .i64 x.n) ∧ W.cell? ⟨w.heap.size, 3, none⟩ = some (.int .u8 (x.c.toNat : Int)) ∧ W.cell? ⟨w.heap.size, 4, none⟩ = some (.string x.text) ∧ W.cell? ⟨w.heap.size, 5, none⟩ = some (.slice x.A x.picks.length x.cap)) := fun W h => h.six
  obtain ⟨kind, i, n, c, text, A, picks, cap⟩ := x
  unfold ActV.val ActV.cells at *
  simp only at *
  subst hk
  generalize ActV.textOf ⟨1, i, n, c, text, A, picks, cap⟩ = tx at *
  clear hd hx hnb hb
  go_enter Try.func11, Try.ntmps11
  go_wp2_with fail
  go_region_held3 (fun W => W.cell? ⟨w.heap.size, 0, none⟩ = some (.int .i64 1) ∧ W.cell? ⟨w.heap.size, 1, none⟩ = some (.int .i64 i) ∧ W.cell? ⟨w.heap.size, 2, none⟩ = some (.int .i64 n) ∧ W.cell? ⟨w.heap.size, 3, none⟩ = some (.int .u8 (c.toNat : Int)) ∧ W.cell? ⟨w.heap.size, 4, none⟩ = some (.string text) ∧ W.cell? ⟨w.heap.size, 5, none⟩ = some (.slice A picks.length cap))
    (first | exact HKS.out _ HBK.out.drew | exact HKS.out _ (by assumption))
    (first
      | (go_at_call 12; refine (HT.out _).mono ?_; rintro e w2 ⟨rfl, hb2⟩; have hbk2 := bk_below HBK.out.drew hb2; have hd2 := ((HD.out.off ((Off.refl [] w).alloc _).drew (by simp)).off (Off.of_below hb2 []) (by simp)))
      | (go_at_call 20; refine (dwrite_any hd2 i tx HB.out HTS.out).mono ?_; rintro e w3 ⟨rfl, hpost⟩; have hbk3 := bk_of_post hpost hbk2 HNB.out))
  all_goals
    go_wp2_with fail
    go_ret
    exact devPost_of (by rw [HON.out]) (by rw [HON.out]; rfl) (devPost_from (((Off.refl [] w).alloc _).drew.trans (Off.of_below hb2 [])) hpost)

set_option maxHeartbeats 4000000 in
theorem does_sync {g : Nat} {S : List Nat} {D : DevS} {w : World} (hd : Dev w g S D) (x : ActV) (hx : x.Ok w) (hb : D.steps ≤ 1000000000) (hk : x.kind = 2) :
    Calls Try.prog 11 #[ptr g, x.val] w (DevPost g S (x.on D).1 (.int .i64 (x.on D).2) w) := by
  have HB := Lib.hid hb
  have HX := Lib.hid hx
  have HON : Hid (x.on D = D.sync) := show _ = _ by unfold ActV.on; rw [if_neg (by rw [hk]; decide), if_pos hk]
  have HD1 : Hid (Dev (w.alloc (.cells x.cells 33)) g S D) := hd.off ((Off.refl [] w).alloc _) (by simp)
  have HX1 : Hid (x.Ok (w.alloc (.cells x.cells 33))) := hx.off ((Off.refl [] w).alloc _) (by simp)
  obtain ⟨kind, i, n, c, text, A, picks, cap⟩ := x
  unfold ActV.val ActV.cells at *
  simp only at *
  subst hk
  clear hd hx hb
  go_enter Try.func11, Try.ntmps11
  go_wp2_with (first
    | (go_at_call 19; refine (dsync_any HD1.out HB.out).mono ?_; rintro e w3 ⟨rfl, hpost⟩; have HPO := Lib.hid hpost; clear hpost)
    | fail)
  go_ret
  exact devPost_of (by rw [HON.out]) (by rw [HON.out]; rfl) (devPost_from ((Off.refl [] w).alloc _) HPO.out)

set_option maxHeartbeats 4000000 in
theorem does_fuse {g : Nat} {S : List Nat} {D : DevS} {w : World} (hd : Dev w g S D) (x : ActV) (hx : x.Ok w) (hb : D.steps ≤ 1000000000) (hk : x.kind = 3) :
    Calls Try.prog 11 #[ptr g, x.val] w (DevPost g S (x.on D).1 (.int .i64 (x.on D).2) w) := by
  have HB := Lib.hid hb
  have HX := Lib.hid hx
  have HON : Hid (x.on D = D.setFuse x.n) := show _ = _ by unfold ActV.on; rw [if_neg (by rw [hk]; decide), if_neg (by rw [hk]; decide), if_pos hk]
  have HD1 : Hid (Dev (w.alloc (.cells x.cells 33)) g S D) := hd.off ((Off.refl [] w).alloc _) (by simp)
  have HX1 : Hid (x.Ok (w.alloc (.cells x.cells 33))) := hx.off ((Off.refl [] w).alloc _) (by simp)
  obtain ⟨kind, i, n, c, text, A, picks, cap⟩ := x
  unfold ActV.val ActV.cells at *
  simp only at *
  subst hk
  clear hd hx hb
  go_enter Try.func11, Try.ntmps11
  go_wp2_with (first
    | (go_at_call 17; refine (dfuse_any HD1.out n HX.out.n1).mono ?_; rintro e w3 ⟨rfl, hpost⟩; have HPO := Lib.hid hpost; clear hpost)
    | fail)
  go_ret
  exact devPost_of (by rw [HON.out]) (by rw [HON.out]; rfl) (devPost_from ((Off.refl [] w).alloc _) HPO.out)

set_option maxHeartbeats 4000000 in
theorem does_cut {g : Nat} {S : List Nat} {D : DevS} {w : World} (hd : Dev w g S D) (x : ActV) (hx : x.Ok w) (hb : D.steps ≤ 1000000000) (hk : x.kind = 4) :
    Calls Try.prog 11 #[ptr g, x.val] w (DevPost g S (x.on D).1 (.int .i64 (x.on D).2) w) := by
  have HB := Lib.hid hb
  have HX := Lib.hid hx
  have HON : Hid (x.on D = D.cut) := show _ = _ by unfold ActV.on; rw [if_neg (by rw [hk]; decide), if_neg (by rw [hk]; decide), if_neg (by rw [hk]; decide), if_pos hk]
  have HD1 : Hid (Dev (w.alloc (.cells x.cells 33)) g S D) := hd.off ((Off.refl [] w).alloc _) (by simp)
  have HX1 : Hid (x.Ok (w.alloc (.cells x.cells 33))) := hx.off ((Off.refl [] w).alloc _) (by simp)
  obtain ⟨kind, i, n, c, text, A, picks, cap⟩ := x
  unfold ActV.val ActV.cells at *
  simp only at *
  subst hk
  clear hd hx hb
  go_enter Try.func11, Try.ntmps11
  go_wp2_with (first
    | (go_at_call 14; refine (dcut_any HD1.out).mono ?_; rintro e w3 ⟨rfl, hpost⟩; have HPO := Lib.hid hpost; clear hpost)
    | fail)
  go_ret
  exact devPost_of (by rw [HON.out]) (by rw [HON.out]; rfl) (devPost_from ((Off.refl [] w).alloc _) HPO.out)

set_option maxHeartbeats 4000000 in
theorem does_start {g : Nat} {S : List Nat} {D : DevS} {w : World} (hd : Dev w g S D) (x : ActV) (hx : x.Ok w) (hb : D.steps ≤ 1000000000) (hk : x.kind = 5) (hA : x.picks ≠ [] → ∀ a, x.A = some a → a.block ∉ S) :
    Calls Try.prog 11 #[ptr g, x.val] w (DevPost g S (x.on D).1 (.int .i64 (x.on D).2) w) := by
  have HB := Lib.hid hb
  have HX := Lib.hid hx
  have HON : Hid (x.on D = D.start x.picks) := show _ = _ by unfold ActV.on; rw [if_neg (by rw [hk]; decide), if_neg (by rw [hk]; decide), if_neg (by rw [hk]; decide), if_neg (by rw [hk]; decide), if_pos hk]
  have HD1 : Hid (Dev (w.alloc (.cells x.cells 33)) g S D) := hd.off ((Off.refl [] w).alloc _) (by simp)
  have HX1 : Hid (x.Ok (w.alloc (.cells x.cells 33))) := hx.off ((Off.refl [] w).alloc _) (by simp)
  have HA := Lib.hid hA
  clear hA
  obtain ⟨kind, i, n, c, text, A, picks, cap⟩ := x
  unfold ActV.val ActV.cells at *
  simp only at *
  subst hk
  clear hd hx hb
  go_enter Try.func11, Try.ntmps11
  go_wp2_with (first
    | (go_at_call 15; refine (dstart_any HD1.out A picks cap HX1.out.sl HX.out.len HX.out.most HA.out HB.out).mono ?_; rintro e w3 ⟨rfl, hpost⟩; have HPO := Lib.hid hpost; clear hpost)
    | fail)
  go_ret
  exact devPost_of (by rw [HON.out]) (by rw [HON.out]; rfl) (devPost_from ((Off.refl [] w).alloc _) HPO.out)

set_option maxHeartbeats 4000000 in
theorem does_read {g : Nat} {S : List Nat} {D : DevS} {w : World} (hd : Dev w g S D) (x : ActV) (hx : x.Ok w) (hb : D.steps ≤ 1000000000) (h1 : x.kind ≠ 1) (h2 : x.kind ≠ 2) (h3 : x.kind ≠ 3) (h4 : x.kind ≠ 4) (h5 : x.kind ≠ 5) :
    Calls Try.prog 11 #[ptr g, x.val] w (DevPost g S (x.on D).1 (.int .i64 (x.on D).2) w) := by
  have HB := Lib.hid hb
  have HON : Hid (x.on D = (D, (D.read x.i).2)) := show _ = _ by unfold ActV.on; rw [if_neg h1, if_neg h2, if_neg h3, if_neg h4, if_neg h5]
  have HD1 : Hid (Dev (w.alloc (.cells x.cells 33)) g S D) := hd.off ((Off.refl [] w).alloc _) (by simp)
  obtain ⟨kind, i, n, c, text, A, picks, cap⟩ := x
  unfold ActV.val ActV.cells at *
  simp only at *
  have q1 : (kind == 1) = false := by simpa using h1
  have q2 : (kind == 2) = false := by simpa using h2
  have q3 : (kind == 3) = false := by simpa using h3
  have q4 : (kind == 4) = false := by simpa using h4
  have q5 : (kind == 5) = false := by simpa using h5
  clear hd hx hb h1 h2 h3 h4 h5
  go_enter Try.func11, Try.ntmps11
  go_wp2_with (first
    | (go_at_call 25; refine (dread_any HD1.out i HB.out).mono ?_; rintro e w3 ⟨rfl, rfl⟩)
    | fail)
  go_ret
  exact devPost_of (by rw [HON.out]) (by rw [HON.out]; rfl) ⟨S, HD1.out, (Off.refl S w).alloc _, Fresh.refl _ _⟩
theorem does_any {g : Nat} {S : List Nat} {D : DevS} {w : World} (hd : Dev w g S D) (x : ActV) (hx : x.Ok w) (hb : D.steps ≤ 1000000000) (hA : x.picks ≠ [] → ∀ a, x.A = some a → a.block ∉ S) :
    Calls Try.prog 11 #[ptr g, x.val] w (DevPost g S (x.on D).1 (.int .i64 (x.on D).2) w) := by
  by_cases h1 : x.kind = 1
  · exact does_write hd x hx hb h1
  by_cases h2 : x.kind = 2
  · exact does_sync hd x hx hb h2
  by_cases h3 : x.kind = 3
  · exact does_fuse hd x hx hb h3
  by_cases h4 : x.kind = 4
  · exact does_cut hd x hx hb h4
  by_cases h5 : x.kind = 5
  · exact does_start hd x hx hb h5 hA
  exact does_read hd x hx hb h1 h2 h3 h4 h5
theorem ActV.on_ok {x : ActV} {w : World} (hx : x.Ok w) {D : DevS} (h : D.Ok) : (x.on D).1.Ok := by
  unfold ActV.on
  split
  · exact h.write _ _
  · split
    · exact h.sync
    · split
      · exact h.setFuse hx.n1
      · split
        · exact h.cut
        · split
          · exact h.start _
          · exact h

def NilPost (w : World) (e : Ending) (w' : World) : Prop := e = .returned (.int .i64 2) ∧ Below w.heap.size w w'
set_option maxHeartbeats 4000000 in
theorem does_nil_w (x : ActV) (w : World) (hk : x.kind = 1) : Calls Try.prog 11 #[.pointer none, x.val] w (NilPost w) := by
  have HBK : Hid (Bk (w.alloc (.cells x.cells 33)) w.heap.size 33 x.cells) := Bk.new _ _ _
  have HT : Hid (∀ W, Calls Try.prog 12 #[x.val] W (TellsS x.textOf W)) := fun W => text_any x W
  have HKS : Hid (∀ W, Bk W w.heap.size 33 x.cells → W.cell? ⟨w.heap.size, 0, none⟩ = some (.int .i64 x.kind) ∧ W.cell? ⟨w.heap.size, 1, none⟩ = some (.int .i64 x.i) ∧ W.cell? ⟨w.heap.size, 2, none⟩ = some (.int .i64 x.n) ∧ W.cell? ⟨w.heap.size, 3, none⟩ = some (.int .u8 (x.c.toNat : Int)) ∧ W.cell? ⟨w.heap.size, 4, none⟩ = some (.string x.text) ∧ W.cell? ⟨w.heap.size, 5, none⟩ = some (.slice x.A x.picks.length x.cap)) := fun W h => h.six
  obtain ⟨kind, i, n, c, text, A, picks, cap⟩ := x
  unfold ActV.val ActV.cells at *
  simp only at *
  subst hk
  generalize ActV.textOf ⟨1, i, n, c, text, A, picks, cap⟩ = tx at *
  go_enter Try.func11, Try.ntmps11
  go_wp2_with fail
  go_region_held3 (fun W => W.cell? ⟨w.heap.size, 0, none⟩ = some (.int .i64 1) ∧ W.cell? ⟨w.heap.size, 1, none⟩ = some (.int .i64 i) ∧ W.cell? ⟨w.heap.size, 2, none⟩ = some (.int .i64 n) ∧ W.cell? ⟨w.heap.size, 3, none⟩ = some (.int .u8 (c.toNat : Int)) ∧ W.cell? ⟨w.heap.size, 4, none⟩ = some (.string text) ∧ W.cell? ⟨w.heap.size, 5, none⟩ = some (.slice A picks.length cap))
    (first | exact HKS.out _ HBK.out.drew | exact HKS.out _ (by assumption))
    (first
      | (go_at_call 12; refine (HT.out _).mono ?_; rintro e w2 ⟨rfl, hb2⟩; have hbk2 := bk_below HBK.out.drew hb2)
      | (go_at_call 20; refine (dwrite_nil i tx _).mono ?_; rintro e w3 ⟨rfl, rfl⟩))
  all_goals
    go_wp2_with fail
    go_ret
    exact ⟨rfl, (((Below.refl _ w).alloc (Nat.le_refl _) _).drew).trans (hb2.mono (by simp))⟩
set_option maxHeartbeats 4000000 in
theorem does_nil (x : ActV) (w : World) : Calls Try.prog 11 #[.pointer none, x.val] w (NilPost w) := by
  by_cases h1 : x.kind = 1
  · exact does_nil_w x w h1
  obtain ⟨kind, i, n, c, text, A, picks, cap⟩ := x
  unfold ActV.val ActV.cells at *
  simp only at *
  have q1 : (kind == 1) = false := by simpa using h1
  have hq : kind = 2 ∨ kind = 3 ∨ kind = 4 ∨ kind = 5 ∨ ((kind == 2) = false ∧ (kind == 3) = false ∧ (kind == 4) = false ∧ (kind == 5) = false) := by simp; omega
  rcases hq with rfl | rfl | rfl | rfl | ⟨q2, q3, q4, q5⟩
  all_goals
    clear h1
    go_enter Try.func11, Try.ntmps11
    go_wp2_with (first
      | (go_at_call 19; refine (dsync_nil _).mono ?_; rintro e w3 ⟨rfl, rfl⟩)
      | (go_at_call 17; refine (dfuse_nil _ _).mono ?_; rintro e w3 ⟨rfl, rfl⟩)
      | (go_at_call 14; refine (dcut_nil _).mono ?_; rintro e w3 ⟨rfl, rfl⟩)
      | (go_at_call 15; refine (dstart_nil _ _).mono ?_; rintro e w3 ⟨rfl, rfl⟩)
      | (go_at_call 25; refine (dread_nil _ _).mono ?_; rintro e w3 ⟨rfl, rfl⟩)
      | fail)
    go_ret
    exact ⟨rfl, (Below.refl _ w).alloc (Nat.le_refl _) _⟩
end Go.Proofs.Ytchldjjfaiikbaa
