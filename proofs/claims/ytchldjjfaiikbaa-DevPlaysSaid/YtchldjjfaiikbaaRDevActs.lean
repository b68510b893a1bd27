/- Contracts of the law's 'means': an act on the reference's device. Printed out of DevActs. -/
import Derived.Test.YtchldjjfaiikbaaRDevStart
import Derived.Test.YtchldjjfaiikbaaDevActs
namespace Go.Proofs.Ytchldjjfaiikbaa
open Go.RowKit
open Go.PlainAid
set_option maxRecDepth 100000
set_option linter.unusedVariables false
set_option linter.unusedSimpArgs false

theorem rdevPost_from {g : Nat} {S : List Nat} {D' : DevS} {w w1 w2 : World} (h1 : Off [] w w1) (h : ∃ S', RDev w2 g S' D' ∧ Off S w1 w2 ∧ Fresh w1 S S') : ∃ S', RDev w2 g S' D' ∧ Off S w w2 ∧ Fresh w S S' := by
  obtain ⟨S', a, b, c⟩ := h
  exact ⟨S', a, (h1.mono (by simp)).trans b, fun x hx => (c x hx).imp_right (Nat.le_trans h1.size)⟩

theorem rbk_of_post {g : Nat} {S : List Nat} {D' : DevS} {w w' : World} {b : Nat} {t : TypeId} {cs : Array Value} (h : ∃ S', RDev w' g S' D' ∧ Off S w w' ∧ Fresh w S S') (hb : Bk w b t cs) (hn : b ∉ S) : Bk w' b t cs := by
  obtain ⟨S', _, p2, _⟩ := h
  exact p2.bk hb hn
def ractCellsAt (W : World) (b : Nat) (x : ActV) : Prop :=
  W.cell? ⟨b, 0, none⟩ = some (.int .i64 x.kind) ∧ W.cell? ⟨b, 1, none⟩ = some (.int .i64 x.i) ∧ W.cell? ⟨b, 2, none⟩ = some (.int .i64 x.n) ∧ W.cell? ⟨b, 3, none⟩ = some (.int .u8 (x.c.toNat : Int)) ∧ W.cell? ⟨b, 4, none⟩ = some (.string x.text) ∧ W.cell? ⟨b, 5, none⟩ = some (.slice x.A x.picks.length x.cap)

set_option maxHeartbeats 4000000 in
theorem means_write {g : Nat} {S : List Nat} {D : DevS} {w : World} (hd : RDev w g S D) (x : ActV) (hx : x.Ok w) (hb : D.steps ≤ 1000000000) (hk : x.kind = 1) :
    Calls Try.prog 24 #[ptr g, x.val] w (RDevPost g S (x.on D).1 (.int .i64 (x.on D).2) w) := by
  have HD := Lib.hid hd
  have HB := Lib.hid hb
  have HON : Hid (x.on D = D.write x.i x.textOf) := show _ = _ by unfold ActV.on; rw [if_pos hk]
  have HTS : Hid (x.textOf.size ≤ maxLen) := show _ ≤ _ by
    unfold ActV.textOf
    split
    · rw [sectorB_size]; decide
    · exact hx.text
  have hnb : w.heap.size ∉ S := fun h => by have := hd.old _ h; omega
  have HNB := Lib.hid hnb
  have HBK : Hid (Bk (w.alloc (.cells x.cells 33)) w.heap.size 33 x.cells) := Bk.new _ _ _
  have HT : Hid (∀ W, Calls Try.prog 12 #[x.val] W (TellsS x.textOf W)) := fun W => text_any x W
  have HKS : Hid (∀ W, Bk W w.heap.size 33 x.cells → W.cell? ⟨w.heap.size, 0, none⟩ = some (.int .i64 x.kind) ∧ W.cell? ⟨w.heap.size, 1, none⟩ = some (.int .i64 x.i) ∧ W.cell? ⟨w.heap.size, 2, none⟩ = some (.int .i64 x.n) ∧ W.cell? ⟨w.heap.size, 3, none⟩ = some (.int .u8 (x.c.toNat : Int)) ∧ W.cell? ⟨w.heap.size, 4, none⟩ = some (.string x.text) ∧ W.cell? ⟨w.heap.size, 5, none⟩ = some (.slice x.A x.picks.length x.cap)) := fun W h => h.six
  obtain ⟨kind, i, n, c, text, A, picks, cap⟩ := x
  unfold ActV.val ActV.cells at *
  simp only at *
  subst hk
  generalize ActV.textOf ⟨1, i, n, c, text, A, picks, cap⟩ = tx at *
  clear hd hx hnb hb
  go_enter Try.func24, Try.ntmps24
  go_wp2_with fail
  go_region_held3 (fun W => W.cell? ⟨w.heap.size, 0, none⟩ = some (.int .i64 1) ∧ W.cell? ⟨w.heap.size, 1, none⟩ = some (.int .i64 i) ∧ W.cell? ⟨w.heap.size, 2, none⟩ = some (.int .i64 n) ∧ W.cell? ⟨w.heap.size, 3, none⟩ = some (.int .u8 (c.toNat : Int)) ∧ W.cell? ⟨w.heap.size, 4, none⟩ = some (.string text) ∧ W.cell? ⟨w.heap.size, 5, none⟩ = some (.slice A picks.length cap))
    (first | exact HKS.out _ HBK.out.drew | exact HKS.out _ (by assumption))
    (first
      | (go_at_call 12; refine (HT.out _).mono ?_; rintro e w2 ⟨rfl, hb2⟩; have hbk2 := bk_below HBK.out.drew hb2; have hd2 := ((HD.out.off ((Off.refl [] w).alloc _).drew (by simp)).off (Off.of_below hb2 []) (by simp)))
      | (go_at_call 33; refine (rwrite_any hd2 i tx HB.out HTS.out).mono ?_; rintro e w3 ⟨rfl, hpost⟩; have hbk3 := rbk_of_post hpost hbk2 HNB.out))
  all_goals
    go_wp2_with fail
    go_ret
    exact rdevPost_of (by rw [HON.out]) (by rw [HON.out]; rfl) (rdevPost_from (((Off.refl [] w).alloc _).drew.trans (Off.of_below hb2 [])) hpost)

set_option maxHeartbeats 4000000 in
theorem means_sync {g : Nat} {S : List Nat} {D : DevS} {w : World} (hd : RDev w g S D) (x : ActV) (hx : x.Ok w) (hb : D.steps ≤ 1000000000) (hk : x.kind = 2) :
    Calls Try.prog 24 #[ptr g, x.val] w (RDevPost g S (x.on D).1 (.int .i64 (x.on D).2) w) := by
  have HB := Lib.hid hb
  have HX := Lib.hid hx
  have HON : Hid (x.on D = D.sync) := show _ = _ by unfold ActV.on; rw [if_neg (by rw [hk]; decide), if_pos hk]
  have HD1 : Hid (RDev (w.alloc (.cells x.cells 33)) g S D) := hd.off ((Off.refl [] w).alloc _) (by simp)
  have HX1 : Hid (x.Ok (w.alloc (.cells x.cells 33))) := hx.off ((Off.refl [] w).alloc _) (by simp)
  obtain ⟨kind, i, n, c, text, A, picks, cap⟩ := x
  unfold ActV.val ActV.cells at *
  simp only at *
  subst hk
  clear hd hx hb
  go_enter Try.func24, Try.ntmps24
  go_wp2_with (first
    | (go_at_call 34; refine (rsync_any HD1.out HB.out).mono ?_; rintro e w3 ⟨rfl, hpost⟩; have HPO := Lib.hid hpost; clear hpost)
    | fail)
  go_ret
  exact rdevPost_of (by rw [HON.out]) (by rw [HON.out]; rfl) (rdevPost_from ((Off.refl [] w).alloc _) HPO.out)

set_option maxHeartbeats 4000000 in
theorem means_fuse {g : Nat} {S : List Nat} {D : DevS} {w : World} (hd : RDev w g S D) (x : ActV) (hx : x.Ok w) (hb : D.steps ≤ 1000000000) (hk : x.kind = 3) :
    Calls Try.prog 24 #[ptr g, x.val] w (RDevPost g S (x.on D).1 (.int .i64 (x.on D).2) w) := by
  have HB := Lib.hid hb
  have HX := Lib.hid hx
  have HON : Hid (x.on D = D.setFuse x.n) := show _ = _ by unfold ActV.on; rw [if_neg (by rw [hk]; decide), if_neg (by rw [hk]; decide), if_pos hk]
  have HD1 : Hid (RDev (w.alloc (.cells x.cells 33)) g S D) := hd.off ((Off.refl [] w).alloc _) (by simp)
  have HX1 : Hid (x.Ok (w.alloc (.cells x.cells 33))) := hx.off ((Off.refl [] w).alloc _) (by simp)
  obtain ⟨kind, i, n, c, text, A, picks, cap⟩ := x
  unfold ActV.val ActV.cells at *
  simp only at *
  subst hk
  clear hd hx hb
  go_enter Try.func24, Try.ntmps24
  go_wp2_with (first
    | (go_at_call 35; refine (rfuse_any HD1.out n HX.out.n1).mono ?_; rintro e w3 ⟨rfl, hpost⟩; have HPO := Lib.hid hpost; clear hpost)
    | fail)
  go_ret
  exact rdevPost_of (by rw [HON.out]) (by rw [HON.out]; rfl) (rdevPost_from ((Off.refl [] w).alloc _) HPO.out)

set_option maxHeartbeats 4000000 in
theorem means_cut {g : Nat} {S : List Nat} {D : DevS} {w : World} (hd : RDev w g S D) (x : ActV) (hx : x.Ok w) (hb : D.steps ≤ 1000000000) (hk : x.kind = 4) :
    Calls Try.prog 24 #[ptr g, x.val] w (RDevPost g S (x.on D).1 (.int .i64 (x.on D).2) w) := by
  have HB := Lib.hid hb
  have HX := Lib.hid hx
  have HON : Hid (x.on D = D.cut) := show _ = _ by unfold ActV.on; rw [if_neg (by rw [hk]; decide), if_neg (by rw [hk]; decide), if_neg (by rw [hk]; decide), if_pos hk]
  have HD1 : Hid (RDev (w.alloc (.cells x.cells 33)) g S D) := hd.off ((Off.refl [] w).alloc _) (by simp)
  have HX1 : Hid (x.Ok (w.alloc (.cells x.cells 33))) := hx.off ((Off.refl [] w).alloc _) (by simp)
  obtain ⟨kind, i, n, c, text, A, picks, cap⟩ := x
  unfold ActV.val ActV.cells at *
  simp only at *
  subst hk
  clear hd hx hb
  go_enter Try.func24, Try.ntmps24
  go_wp2_with (first
    | (go_at_call 36; refine (rcut_any HD1.out).mono ?_; rintro e w3 ⟨rfl, hpost⟩; have HPO := Lib.hid hpost; clear hpost)
    | fail)
  go_ret
  exact rdevPost_of (by rw [HON.out]) (by rw [HON.out]; rfl) (rdevPost_from ((Off.refl [] w).alloc _) HPO.out)

set_option maxHeartbeats 4000000 in
theorem means_start {g : Nat} {S : List Nat} {D : DevS} {w : World} (hd : RDev w g S D) (x : ActV) (hx : x.Ok w) (hb : D.steps ≤ 1000000000) (hk : x.kind = 5) (hA : x.picks ≠ [] → ∀ a, x.A = some a → a.block ∉ S) :
    Calls Try.prog 24 #[ptr g, x.val] w (RDevPost g S (x.on D).1 (.int .i64 (x.on D).2) w) := by
  have HB := Lib.hid hb
  have HX := Lib.hid hx
  have HON : Hid (x.on D = D.start x.picks) := show _ = _ by unfold ActV.on; rw [if_neg (by rw [hk]; decide), if_neg (by rw [hk]; decide), if_neg (by rw [hk]; decide), if_neg (by rw [hk]; decide), if_pos hk]
  have HD1 : Hid (RDev (w.alloc (.cells x.cells 33)) g S D) := hd.off ((Off.refl [] w).alloc _) (by simp)
  have HX1 : Hid (x.Ok (w.alloc (.cells x.cells 33))) := hx.off ((Off.refl [] w).alloc _) (by simp)
  have HA := Lib.hid hA
  clear hA
  obtain ⟨kind, i, n, c, text, A, picks, cap⟩ := x
  unfold ActV.val ActV.cells at *
  simp only at *
  subst hk
  clear hd hx hb
  go_enter Try.func24, Try.ntmps24
  go_wp2_with (first
    | (go_at_call 37; refine (rstart_any HD1.out A picks cap HX1.out.sl HX.out.len HX.out.most HA.out HB.out).mono ?_; rintro e w3 ⟨rfl, hpost⟩; have HPO := Lib.hid hpost; clear hpost)
    | fail)
  go_ret
  exact rdevPost_of (by rw [HON.out]) (by rw [HON.out]; rfl) (rdevPost_from ((Off.refl [] w).alloc _) HPO.out)

set_option maxHeartbeats 4000000 in
theorem means_read {g : Nat} {S : List Nat} {D : DevS} {w : World} (hd : RDev w g S D) (x : ActV) (hx : x.Ok w) (hb : D.steps ≤ 1000000000) (h1 : x.kind ≠ 1) (h2 : x.kind ≠ 2) (h3 : x.kind ≠ 3) (h4 : x.kind ≠ 4) (h5 : x.kind ≠ 5) :
    Calls Try.prog 24 #[ptr g, x.val] w (RDevPost g S (x.on D).1 (.int .i64 (x.on D).2) w) := by
  have HB := Lib.hid hb
  have HON : Hid (x.on D = (D, (D.read x.i).2)) := show _ = _ by unfold ActV.on; rw [if_neg h1, if_neg h2, if_neg h3, if_neg h4, if_neg h5]
  have HD1 : Hid (RDev (w.alloc (.cells x.cells 33)) g S D) := hd.off ((Off.refl [] w).alloc _) (by simp)
  obtain ⟨kind, i, n, c, text, A, picks, cap⟩ := x
  unfold ActV.val ActV.cells at *
  simp only at *
  have q1 : (kind == 1) = false := by simpa using h1
  have q2 : (kind == 2) = false := by simpa using h2
  have q3 : (kind == 3) = false := by simpa using h3
  have q4 : (kind == 4) = false := by simpa using h4
  have q5 : (kind == 5) = false := by simpa using h5
  clear hd hx hb h1 h2 h3 h4 h5
  go_enter Try.func24, Try.ntmps24
  go_wp2_with (first
    | (go_at_call 26; refine (rread_any HD1.out i HB.out).mono ?_; rintro e w3 ⟨rfl, rfl⟩)
    | fail)
  go_ret
  exact rdevPost_of (by rw [HON.out]) (by rw [HON.out]; rfl) ⟨S, HD1.out, (Off.refl S w).alloc _, Fresh.refl _ _⟩
theorem means_any {g : Nat} {S : List Nat} {D : DevS} {w : World} (hd : RDev w g S D) (x : ActV) (hx : x.Ok w) (hb : D.steps ≤ 1000000000) (hA : x.picks ≠ [] → ∀ a, x.A = some a → a.block ∉ S) :
    Calls Try.prog 24 #[ptr g, x.val] w (RDevPost g S (x.on D).1 (.int .i64 (x.on D).2) w) := by
  by_cases h1 : x.kind = 1
  · exact means_write hd x hx hb h1
  by_cases h2 : x.kind = 2
  · exact means_sync hd x hx hb h2
  by_cases h3 : x.kind = 3
  · exact means_fuse hd x hx hb h3
  by_cases h4 : x.kind = 4
  · exact means_cut hd x hx hb h4
  by_cases h5 : x.kind = 5
  · exact means_start hd x hx hb h5 hA
  exact means_read hd x hx hb h1 h2 h3 h4 h5
end Go.Proofs.Ytchldjjfaiikbaa
