import Derived.Test.YtjbcbnemdhbhbaaGreatDoorK35
import Derived.Test.YtjbcbnemdhbhbaaGreatDoorK37
import Derived.Test.YtjbcbnemdhbhbaaGreatDoorK27
import Derived.Test.YtjbcbnemdhbhbaaGreatDoorK32
import Derived.Test.YtjbcbnemdhbhbaaGreatDoorK21
import Derived.Test.YtjbcbnemdhbhbaaGreatDoorK29
import Derived.Test.YtjbcbnemdhbhbaaGreatDoorK30
namespace Go.Proofs.YtjbcbnemdhbhbaaGreatDoor
open Go.RowKit
set_option maxRecDepth 100000
set_option linter.unusedVariables false
set_option linter.unusedSimpArgs false
theorem tmay_ok {w : World} {t : Nat} {cs : Array Value} (h : Bk w t 103 cs) (h13 : cs[13]? = some (.bool false)) : Calls Tryz.prog 49 #[.pointer (some ⟨t, 0, none⟩)] w (fun e w' => e = .returned (.int .i64 0) ∧ w = w') := by
  have c13 := (h.cell 13).trans h13
  have lt := h.lt
  clear h h13
  go_enter Tryz.func49, Tryz.ntmps49
  go_wp2_with fail
  go_ret
  exact ⟨rfl, rfl⟩
theorem tmay_nil (w : World) : Calls Tryz.prog 49 #[.pointer none] w (fun e w' => e = .returned (.int .i64 2) ∧ w = w') := by
  go_enter Tryz.func49, Tryz.ntmps49
  go_wp2_with fail
  go_ret
  exact ⟨rfl, rfl⟩
theorem tend_ok (t : Nat) (w : World) : Calls Tryz.prog 47 #[.pointer (some ⟨t, 0, none⟩), .int .i64 0] w (fun e w' => e = .returned (.int .i64 0) ∧ w = w') := by
  go_enter Tryz.func47, Tryz.ntmps47
  go_wp2_with fail
  go_ret
  exact ⟨rfl, rfl⟩
def rootsV (R : ByteArray → Option Nat) : ByteArray → Option Value := fun n => (R n).map fun (r : Nat) => Value.int .i64 r
structure Wr (E : Kv) (F : Prop) (w : World) (S : List Nat) (σ : Book) (k : Nat) (Fo : Forest) (nr : Nat) : Prop where
  at_ : (kvStore E F).At w S σ k
  roots : ∃ n, n ≤ nr ∧ SMap Tryz.prog 9 w E.rm n (rootsV Fo.R)
  rm : E.rm ∉ S
  ok : Fo.Ok σ
  root : E.root = Fo.main.root
  open_ : E.over = false
  first : E.stage = 0
theorem Wr.cells {E : Kv} {F : Prop} {w : World} {S : List Nat} {σ : Book} {k nr : Nat} {Fo : Forest} (h : Wr E F w S σ k Fo nr) : ∃ (x : Tx) (f dm : Nat) (lv fv : Value), Bk w E.t 103 (txCells E x f dm lv fv) := by
  obtain ⟨x, f, dm, nn, Sf, lv, fv, hm, -⟩ := h.at_
  exact ⟨x, f, dm, lv, fv, hm.cells⟩
theorem Wr.below {E : Kv} (hE : E.Ok) {F : Prop} {w w' : World} {S : List Nat} {σ : Book} {k nr : Nat} {Fo : Forest} (h : Wr E F w S σ k Fo nr) (hb : Below w.heap.size w w') : Wr E F w' S σ k Fo nr := by
  obtain ⟨n0, h1, h2⟩ := h.roots
  exact ⟨(kv_serves hE F).below h.at_ hb, ⟨n0, h1, h2.off (Off.of_below hb []) (by simp)⟩, h.rm, h.ok, h.root, h.open_, h.first⟩
set_option maxHeartbeats 16000000 in
theorem troot_any {E : Kv} (hE : E.Ok) {F : Prop} {w : World} {S : List Nat} {σ : Book} {k nr : Nat} {Fo : Forest} (h : Wr E F w S σ k Fo nr) (name : ByteArray) (hn : IsName name) :
    Calls Tryz.prog 46 #[.pointer (some ⟨E.t, 0, none⟩), .string name] w (fun e w' => e = .returned (.tuple #[.int .i64 (Fo.tr name).root, .int .i64 0]) ∧ Below w.heap.size w w') := by
  obtain ⟨x, f, dm, lv, fv, hc⟩ := h.cells
  obtain ⟨n0, hn0, hm⟩ := h.roots
  have c11 : w.cell? ⟨E.t, 11, none⟩ = some (.map (some E.rm)) := hc.cell 11
  have c3 : w.cell? ⟨E.t, 3, none⟩ = some (.int .i64 E.root) := hc.cell 3
  have lt := hc.lt
  have hl : ∀ W, Off [] w W → (Instr.lookup 101 (.map (some E.rm)) (.string name) true).run Tryz.prog W = .ok (.tuple #[(rootsV Fo.R name).getD (.int .i64 0), .bool (rootsV Fo.R name).isSome]) W := fun W hW =>
    (hm.off hW (by simp)).look2 Tryz.underlying9 Tryz.underlying101 (z := .int .i64 0) (by kernel_rfl) (by have := hn.2; unfold maxLen; omega)
  have hroot := h.root
  rcases h.ok.root name with ⟨r, e1, e2⟩ | ⟨e1, e2⟩
  · have hl1 : (Instr.lookup 101 (.map (some E.rm)) (.string name) true).run Tryz.prog w = .ok (.tuple #[.int .i64 r, .bool true]) w := by
      have := hl w (Off.refl _ _)
      unfold rootsV at this
      rw [e1] at this
      exact this
    rw [← e2]
    clear h hm hl hc e1 e2 hroot
    go_enter Tryz.func46, Tryz.ntmps46
    go_wp2_with fail
    go_ret2
    exact ⟨rfl, Below.refl _ _⟩
  · have hl1 : (Instr.lookup 101 (.map (some E.rm)) (.string name) true).run Tryz.prog w = .ok (.tuple #[.int .i64 0, .bool false]) w := by
      have := hl w (Off.refl _ _)
      unfold rootsV at this
      rw [e1] at this
      exact this
    have HR := Lib.hid (show Calls Tryz.prog 58 #[.iface 111 (.agg #[.pointer (some ⟨E.t, 0, none⟩)]), .int .i64 Fo.main.root, .string name] w (fun e w' => Below w.heap.size w w' ∧ ∃ r : Nat, e = .returned (.tuple #[.int .i64 r, .int .i64 0]) ∧ RootIs Fo.main.L name r) from rootof_any (kv_serves hE F).toReads h.at_ Fo.main.root (h.ok.main.deep (List.nodup_append.1 h.ok.nodup).1) h.ok.main.ents h.ok.names name hn.1 hn.2)
    have HF := Lib.hid fun (r : Nat) (hr : RootIs Fo.main.L name r) => RootIs.fun_ h.ok.main.rising hr e2
    rw [hroot] at c3
    clear h hm hl hc e1 e2 hroot
    go_enter Tryz.func46, Tryz.ntmps46
    go_wp2_with fail
    refine HR.out.mono ?_
    rintro e w1 ⟨hb1, r, rfl, hr⟩
    have hr2 := HF.out r hr
    have HB := Lib.hid hb1
    subst hr2
    clear hb1 hr
    go_wp2_with fail
    go_ret2
    exact ⟨rfl, HB.out⟩
set_option maxHeartbeats 16000000 in
theorem tget_any {E : Kv} (hE : E.Ok) {F : Prop} {w : World} {S : List Nat} {σ : Book} {k nr : Nat} {Fo : Forest} (h : Wr E F w S σ k Fo nr) (name key : ByteArray) (hn : IsName name) :
    Calls Tryz.prog 17 #[.pointer (some ⟨E.t, 0, none⟩), .string name, .string key] w (fun e w' => Below w.heap.size w w' ∧ ∃ v, e = .returned v ∧ GetsV (Fo.tr name).L key v) := by
  obtain ⟨x, f, dm, lv, fv, hc⟩ := h.cells
  have HM := Lib.hid (tmay_ok hc (by rw [show (txCells E x f dm lv fv)[13]? = some (.bool E.over) from rfl, h.open_]))
  have HR := Lib.hid (troot_any hE h name hn)
  have hdeep : Tr.Deep σ (Fo.tr name).root (Fo.tr name).L := (h.ok.each name).deep (by
    by_cases hc : name ∈ Fo.NS
    · obtain ⟨a, b, -, -, -, hp⟩ := h.ok.split hc
      exact (List.nodup_append.1 (hp.nodup_iff.1 h.ok.nodup)).1
    · rw [h.ok.out name hc]; exact List.nodup_nil)
  have HG := Lib.hid fun (W : World) (hb : Below w.heap.size w W) => (show Calls Tryz.prog 59 #[.iface 111 (.agg #[.pointer (some ⟨E.t, 0, none⟩)]), .int .i64 (Fo.tr name).root, .string key] W (fun e w' => Below W.heap.size W w' ∧ ∃ v, e = .returned v ∧ GetsV (Fo.tr name).L key v) from get_any (kv_serves hE F).toReads ((kv_serves hE F).below h.at_ hb) (Fo.tr name).root hdeep (h.ok.each name).ents key)
  have HE := Lib.hid fun (W : World) => tend_ok E.t W
  clear h hc hdeep
  go_enter Tryz.func17, Tryz.ntmps17
  go_wp2_with fail
  refine HM.out.mono ?_
  rintro e w1 ⟨rfl, rfl⟩
  go_wp2_with fail
  refine HR.out.mono ?_
  rintro e w2 ⟨rfl, hb2⟩
  have HB2 := Lib.hid hb2
  clear hb2
  go_wp2_with fail
  refine (HG.out _ HB2.out).mono ?_
  rintro e w3 ⟨hb3, v, rfl, hv⟩
  have HB3 := Lib.hid (HB2.out.trans (hb3.mono HB2.out.size))
  clear hb3
  rcases hv with ⟨y, hy, hk, rfl⟩ | ⟨hno, rfl⟩
  · have HV := Lib.hid (show GetsV (Fo.tr name).L key (.tuple #[.string ⟨y.val.toArray⟩, .bool true, .int .i64 0]) from .inl ⟨y, hy, hk, rfl⟩)
    obtain ⟨s, hs⟩ : ∃ s, s = (⟨y.val.toArray⟩ : ByteArray) := ⟨_, rfl⟩
    rw [← hs] at HV ⊢
    clear hs hy hk
    go_wp2_with fail
    refine (HE.out _).mono ?_
    rintro e w4 ⟨rfl, rfl⟩
    go_wp2_with fail
    go_ret3
    exact ⟨HB3.out, _, rfl, HV.out⟩
  · have HV := Lib.hid (show GetsV (Fo.tr name).L key (.tuple #[.string ⟨#[]⟩, .bool false, .int .i64 0]) from .inr ⟨hno, rfl⟩)
    clear hno
    go_wp2_with fail
    refine (HE.out _).mono ?_
    rintro e w4 ⟨rfl, rfl⟩
    go_wp2_with fail
    go_ret3
    exact ⟨HB3.out, _, rfl, HV.out⟩
end Go.Proofs.YtjbcbnemdhbhbaaGreatDoor
namespace Go.Proofs.YtjbcbnemdhbhbaaGreatDoor
open Go.RowKit
set_option maxRecDepth 100000
set_option linter.unusedVariables false
set_option linter.unusedSimpArgs false
theorem name_ne {n : ByteArray} (h : 1 ≤ n.size) : (n.toList == []) = false ∧ (n.toList == (⟨#[]⟩ : ByteArray).toList) = false := by
  have hne : (n.toList == []) = false := by
    have : n.toList.length = n.size := by rw [ByteArray.toList_eq]; rfl
    cases hl : n.toList with
    | nil => rw [hl] at this; simp at this; omega
    | cons a t => rfl
  refine ⟨hne, ?_⟩
  have : (⟨#[]⟩ : ByteArray).toList = [] := by rw [ByteArray.toList_eq]
  rw [this]; exact hne
set_option maxHeartbeats 8000000 in
theorem tchange_ok {w : World} {t : Nat} {cs : Array Value} (h : Bk w t 103 cs) (h13 : cs[13]? = some (.bool false)) (h12 : cs[12]? = some (.int .i64 0)) (name : ByteArray) (hn : IsName name) :
    Calls Tryz.prog 45 #[.pointer (some ⟨t, 0, none⟩), .string name] w (fun e w' => e = .returned (.int .i64 0) ∧ w = w') := by
  have HM := Lib.hid (tmay_ok h h13)
  have c12 := (h.cell 12).trans h12
  have lt := h.lt
  obtain ⟨hne, hne2⟩ := name_ne hn.1
  have z1 : decide ((32 : Int) < (name.size : Int)) = false := decide_eq_false (by have := hn.2; omega)
  have z2 : decide (32 < name.size) = false := decide_eq_false (by have := hn.2; omega)
  clear h h13 h12 hn
  go_enter Tryz.func45, Tryz.ntmps45
  go_wp2_with fail
  refine HM.out.mono ?_
  rintro e w1 ⟨rfl, rfl⟩
  go_wp2_with fail
  go_ret
  exact ⟨rfl, rfl⟩
theorem tend_err {w : World} {t : Nat} {cs : Array Value} (h : Bk w t 103 cs) (x : Int) (hx : x ≠ 0) (h13 : ∃ v, cs[13]? = some v) : Calls Tryz.prog 47 #[.pointer (some ⟨t, 0, none⟩), .int .i64 x] w (fun e w' => e = .returned (.int .i64 x) ∧ w' = w.setCell ⟨t, 13, none⟩ (.bool true)) := by
  obtain ⟨v, h13⟩ := h13
  have c13 := (h.cell 13).trans h13
  have f13 := h.frozen 13
  have lt := h.lt
  have z1 : (x == 0) = false := by rw [beq_eq_false_iff_ne]; exact hx
  clear h h13
  go_enter Tryz.func47, Tryz.ntmps47
  go_wp2_with fail
  go_ret
  exact ⟨rfl, rfl⟩
theorem KvMem.other {E E' : Kv} {w w' : World} {S hd : List Nat} {x : Tx} {f dm nn : Nat} {Sf : List Nat} {lv fv : Value} (h : KvMem E w S hd x f dm nn Sf lv fv) (hc : Bk w' E.t 103 (txCells E' x f dm lv fv)) (ho : Off [E.t] w w')
    (he : E'.t = E.t ∧ E'.b = E.b ∧ E'.q = E.q ∧ E'.r = E.r ∧ E'.g = E.g ∧ E'.T = E.T ∧ E'.Sd = E.Sd ∧ E'.P = E.P ∧ E'.D = E.D ∧ E'.s = E.s ∧ E'.txn = E.txn ∧ E'.limit = E.limit ∧ E'.U = E.U ∧ E'.pc = E.pc ∧ E'.disk = E.disk ∧ E'.c2 = E.c2 ∧ E'.c3 = E.c3 ∧ E'.c4 = E.c4 ∧ E'.ro = E.ro) :
    KvMem E' w' S hd x f dm nn Sf lv fv := by
  have hm := h.nodup
  unfold txMut at hm
  have ht := (List.nodup_cons.1 hm).1
  have hst : ∀ b ∈ E.still, b ∉ [E.t] := fun b hb hs => by
    rw [List.mem_singleton] at hs
    subst hs
    exact h.apart E.t (by simp [txMut]) hb
  have hmu : ∀ b, b ∈ dm :: (lv.ownBlock.toList ++ (fv.ownBlock.toList ++ Sf)) → b ∉ [E.t] := fun b hb hs => by
    rw [List.mem_singleton] at hs
    subst hs
    exact ht hb
  have h' : KvMem E w S hd x f dm nn Sf lv fv := h
  obtain ⟨a1, a2, a3, a4, a5, a6, a7, a8, a9, a10, a11, a12, a13, a14, a15, a16, a17, a18, a19⟩ := he
  have hstill : E'.still = E.still := by unfold Kv.still; rw [a2, a3, a4, a6, a7]
  exact ⟨by rw [a1]; exact hc, h.free.off ho (fun b hb => hmu b (by simp [hb])), by rw [a11]; exact h.map.off ho (hmu _ (by simp)), h.nn, ho.own h.loose (fun b hb => hmu b (by simp [hb])), ho.own h.freed (fun b hb => hmu b (by simp [hb])),
    by rw [a2, a3, a4, a16, a17, a18]; exact ho.bk h.db (hst _ (by simp [Kv.still])), by rw [a4, a10]; exact ho.bk h.rd (hst _ (by simp [Kv.still])), by rw [a3, a6, a5, a8]; exact h.pg.off ho (fun b hb => hst b (by simp [Kv.still, hb])),
    by rw [a5, a7, a9]; exact h.dev.off ho (fun b hb => hst b (by simp [Kv.still, hb])), by rw [a19]; exact h.row.off ho (hst _ (by simp [Kv.still])), by rw [a12, a15, a13, a14]; exact h.ok, by rw [hstill, a1]; exact h.blocks, by rw [a1]; exact h.nodup, by rw [hstill, a1]; exact h.apart⟩
def TPutWay (E : Kv) (F : Prop) (S : List Nat) (k c : Nat) (Fo : Forest) (nr : Nat) (name key val : ByteArray) (w : World) (e : Ending) (w' : World) : Prop :=
  (e = .returned (.int .i64 0) ∧ ∃ (y : En) (t : Tn) (σ' : Book) (S' : List Nat) (k' : Nat), y.cell.key = key ∧ y.val = val.data.toList ∧ y.pages.length ≤ 1 ∧ t.L = Tr.putE key y (Fo.tr name).L ∧ Wr E F w' S' σ' k' (Fo.put name t) (nr + 1) ∧ k ≤ k' + (c + 1) ∧ Off (E.rm :: S) w w' ∧ Fresh w S S')
  ∨ (F ∧ e = .returned (.int .i64 9) ∧ ∃ (σ' : Book) (S' : List Nat), (kvStore { E with over := true } F).At w' S' σ' 0 ∧ Off S w w' ∧ Fresh w S S')
set_option maxHeartbeats 16000000 in
theorem tput_any {E : Kv} (hE : E.Ok) {F : Prop} {w : World} {S : List Nat} {σ : Book} {k nr : Nat} {Fo : Forest} (h : Wr E F w S σ k Fo nr) (hnr : nr ≤ 100000) (name key val : ByteArray) (hn : IsName name) (hk1 : 1 ≤ key.size) (hk2 : key.size ≤ 120) (hv : val.size ≤ 484)
    {c : Nat} (hrc : Tr.RootC σ c (Fo.tr name).root (Fo.tr name).P (Fo.tr name).L) (hk : F ∨ c + 1 ≤ k) :
    Calls Tryz.prog 12 #[.pointer (some ⟨E.t, 0, none⟩), .string name, .string key, .string val] w (TPutWay E F S k c Fo nr name key val w) := by
  obtain ⟨x, f, dm, lv, fv, hc⟩ := h.cells
  have HM := Lib.hid (tchange_ok hc (by rw [show (txCells E x f dm lv fv)[13]? = some (.bool E.over) from rfl, h.open_]) (by rw [show (txCells E x f dm lv fv)[12]? = some (.int .i64 E.stage) from rfl, h.first]) name hn)
  have HR := Lib.hid (troot_any hE h name hn)
  have hndp : (Fo.tr name).P.Nodup := by
    by_cases hc : name ∈ Fo.NS
    · obtain ⟨a, b, -, -, -, hp⟩ := h.ok.split hc
      exact (List.nodup_append.1 (hp.nodup_iff.1 h.ok.nodup)).1
    · rw [h.ok.out name hc]; exact List.nodup_nil
  have hS := (kv_serves hE F).old h.at_
  have HP := Lib.hid fun (W : World) (hb : Below w.heap.size w W) => (show Calls Tryz.prog 48 #[.iface 111 (.agg #[.pointer (some ⟨E.t, 0, none⟩)]), .int .i64 (Fo.tr name).root, .string key, .string val] W (fun e w' => ∃ a b : Int, e = .returned (.tuple #[.int .i64 a, .int .i64 b]) ∧ Hid (PutTells (kvStore E F) S σ k c (Fo.tr name).P (Fo.tr name).L key val W (.returned (.tuple #[.int .i64 a, .int .i64 b])) w')) from
    (put_any (kv_serves hE F) ((kv_serves hE F).below h.at_ hb) (Fo.tr name).root hrc hndp key val hk1 hk2 hv hk).mono fun e w' ⟨y, e1, e2, e3, e4⟩ => by
      obtain ⟨a, b, rfl, h5⟩ := e4.letters
      exact ⟨a, b, rfl, Lib.hid ⟨y, e1, e2, e3, h5.out⟩⟩)
  have HW := Lib.hid h
  have HS := Lib.hid hS
  have lt := hc.lt
  clear h hc hndp hS hrc hk hk1 hk2 hv
  go_enter Tryz.func12, Tryz.ntmps12
  go_wp2_with fail
  refine HM.out.mono ?_
  rintro e w1 ⟨rfl, rfl⟩
  go_wp2_with fail
  refine HR.out.mono ?_
  rintro e w2 ⟨rfl, hb2⟩
  have HB2 := Lib.hid hb2
  clear hb2
  go_wp2_with fail
  refine (HP.out _ HB2.out).mono ?_
  rintro e w3 ⟨a, b, rfl, hw3⟩
  obtain ⟨y, e1, e2, e3, e4⟩ := hw3.out
  have HB := Lib.hid HB2.out
  rcases e4 with ⟨root, P', σ', S', k', e5, hrt, hmv, hat, hk', hof, hfr⟩ | ⟨hF, e5, σ', S', hat, hof, hfr⟩
  · injection e5 with e5
    injection e5 with e5
    simp only [Array.mk.injEq, List.cons.injEq, Value.int.injEq, true_and, and_true] at e5
    obtain ⟨rfl, rfl⟩ := e5
    obtain ⟨nr0, hnr0, hrm⟩ := HW.out.roots
    have hofw : Off S w w3 := (Off.of_below HB.out S).trans hof
    have hfrw : Fresh w S S' := hfr.mono HB.out.size
    have hrm3 := hrm.off hofw HW.out.rm
    obtain ⟨w4, hrun, hrm4, hg4⟩ := (hrm3.off ((Off.refl [] w3).drew) (by simp)).update Tryz.underlying9 Tryz.underlying101 (by unfold maxLen; omega) (s := name) (by have := hn.2; unfold maxLen; omega) (.int .i64 (root : Nat))
    obtain ⟨w5, hrun5, hrm5, hg5⟩ := hrm3.update Tryz.underlying9 Tryz.underlying101 (by unfold maxLen; omega) (s := name) (by have := hn.2; unfold maxLen; omega) (.int .i64 (root : Nat))
    obtain ⟨x3, f3, dm3, nn3, Sf3, lv3, fv3, hm3, hσ3, hk3⟩ := hat
    have q11 : w3.cell? ⟨E.t, 11, none⟩ = some (.map (some E.rm)) := hm3.cells.cell 11
    have lt3 := hm3.cells.lt
    have hrmS' : E.rm ∉ S' := fun hs => by
      rcases hfrw _ hs with h1 | h1
      · exact HW.out.rm h1
      · have := hrm.lt; omega
    have hroots : ∀ j, (if j = name then some (Value.int .i64 (root : Nat)) else rootsV Fo.R j) = rootsV (Fo.put name ⟨root, P', Tr.putE key y (Fo.tr name).L⟩).R j := fun j => by
      unfold rootsV Forest.put
      simp only
      split <;> rfl
    have hend : ∀ w', SMap Tryz.prog 9 w' E.rm (nr0 + 1) (fun j => if j = name then some (Value.int .i64 (root : Nat)) else rootsV Fo.R j) → Off [E.rm] w3 w' → TPutWay E F S k c Fo nr name key val w (.returned (.int .i64 0)) w' := fun w' hr ho =>
      .inl ⟨rfl, y, ⟨root, P', Tr.putE key y (Fo.tr name).L⟩, σ', S', k', e1, e2, e3, rfl,
        ⟨(kv_serves hE F).off ⟨x3, f3, dm3, nn3, Sf3, lv3, fv3, hm3, hσ3, hk3⟩ ho (fun b hb hs => by rw [List.mem_singleton] at hs; subst hs; exact hrmS' hb), ⟨nr0 + 1, by omega, by rw [← (funext hroots : _ = rootsV _)]; exact hr⟩, hrmS', HW.out.ok.put hn hrt hmv, by
          rw [HW.out.root]
          unfold Forest.put Forest.withName
          split <;> rfl, HW.out.open_, HW.out.first⟩, hk', (hofw.mono (fun b hb => .inl (by simp [hb]))).trans (ho.mono (fun b hb => .inl (by simp at hb; simp [hb]))), hfrw⟩
    have HE4 := Lib.hid (hend w4 hrm4 ((Off.refl [E.rm] w3).drew.grown hg4 (fun g hg => .inl (by simp at hg; simp [hg]))))
    have HE5 := Lib.hid (hend w5 hrm5 ((Off.refl [E.rm] w3).grown hg5 (fun g hg => .inl (by simp at hg; simp [hg]))))
    clear hend hroots hrm hrm3 hrm4 hg4 hrm5 hg5 hm3 hσ3 hk3 hrt hmv hk' hof hfr hofw hfrw hw3 e1 e2 e3 hrmS'
    go_wp2_with fail
    go_ret
    first | exact HE4.out | exact HE5.out
  · injection e5 with e5
    injection e5 with e5
    simp only [Array.mk.injEq, List.cons.injEq, Value.int.injEq, true_and, and_true] at e5
    obtain ⟨rfl, rfl⟩ := e5
    obtain ⟨x3, f3, dm3, nn3, Sf3, lv3, fv3, hm3, hσ3, hk3⟩ := hat
    have hofw : Off S w w3 := (Off.of_below HB.out S).trans hof
    have hfrw : Fresh w S S' := hfr.mono HB.out.size
    have lt3 := hm3.cells.lt
    have hov : Bk (w3.setCell ⟨E.t, 13, none⟩ (.bool true)) E.t 103 (txCells { E with over := true } x3 f3 dm3 lv3 fv3) := by
      have := hm3.cells.put 13 (.bool true)
      exact this
    have ht : E.t ∈ S' := by rw [hm3.blocks]; simp [txMut]
    have HEND := Lib.hid (tend_err hm3.cells 9 (by decide) ⟨_, rfl⟩)
    have HE := Lib.hid (show TPutWay E F S k c Fo nr name key val w (.returned (.int .i64 9)) (w3.setCell ⟨E.t, 13, none⟩ (.bool true)) from
      .inr ⟨hF, rfl, σ', S', ⟨x3, f3, dm3, nn3, Sf3, lv3, fv3, hm3.other hov ((Off.refl [E.t] w3).setCell (p := ⟨E.t, 13, none⟩) (.inl (by simp)) _) ⟨rfl, rfl, rfl, rfl, rfl, rfl, rfl, rfl, rfl, rfl, rfl, rfl, rfl, rfl, rfl, rfl, rfl, rfl, rfl⟩, hσ3, hk3⟩, hofw.setCell (p := ⟨E.t, 13, none⟩) (by
        rcases hfrw _ ht with h1 | h1
        · exact .inl h1
        · exact .inr h1) _, hfrw⟩)
    clear hov ht hm3 hσ3 hk3 hof hfr hofw hfrw hw3
    go_wp2_with fail
    refine HEND.out.mono ?_
    rintro e w4 ⟨rfl, rfl⟩
    go_wp2_with fail
    go_ret
    exact HE.out
end Go.Proofs.YtjbcbnemdhbhbaaGreatDoor
namespace Go.Proofs.YtjbcbnemdhbhbaaGreatDoor
open Go.RowKit
set_option maxRecDepth 100000
set_option linter.unusedVariables false
set_option linter.unusedSimpArgs false
structure Di where
  b : Nat
  q : Nat
  r : Nat
  f : Nat
  g : Nat
  T : List Nat
  Sf : List Nat
  P : PgS
  s : St
  fr : List (Nat × Nat)
  pv : Value
  pcs : List Nat
  wv : Value
def Di.blocks (d : Di) : List Nat := d.b :: d.r :: (d.T ++ (d.Sf ++ d.pv.ownBlock.toList))
structure DbAt (w : World) (d : Di) : Prop where
  top : Bk w d.b 99 #[.pointer (some ⟨d.q, 0, none⟩), .pointer (some ⟨d.r, 0, none⟩), .pointer (some ⟨d.f, 0, none⟩), d.pv, d.wv]
  pg : Pg w d.q d.T d.g d.P
  rd : Bk w d.r 195 d.s.cells
  free : FL w d.f d.Sf d.fr
  pcs : w.ownsRow 0 3 1 d.pv d.pcs.length (ints d.pcs)
  bo : d.b ∉ d.T ++ (d.Sf ++ d.pv.ownBlock.toList)
  ro : d.r ∉ d.T ++ (d.Sf ++ d.pv.ownBlock.toList)
theorem DbAt.off {w w' : World} {d : Di} {U : List Nat} (h : DbAt w d) (ho : Off U w w') (hU : ∀ x ∈ d.blocks, x ∉ U) : DbAt w' d :=
  ⟨ho.bk h.top (hU _ (by simp [Di.blocks])), h.pg.off ho (fun x hx => hU x (by simp [Di.blocks, hx])), ho.bk h.rd (hU _ (by simp [Di.blocks])), h.free.off ho (fun x hx => hU x (by simp [Di.blocks, hx])), ho.own h.pcs (fun x hx => hU x (by simp [Di.blocks, hx])), h.bo, h.ro⟩
theorem DbAt.below {w w' : World} {d : Di} (h : DbAt w d) (hb : Below w.heap.size w w') : DbAt w' d := h.off (Off.of_below hb []) (by simp)
theorem DbAt.old {w : World} {d : Di} (h : DbAt w d) : ∀ x ∈ d.blocks, x < w.heap.size := by
  intro x hx
  simp only [Di.blocks, List.mem_cons, List.mem_append, Option.mem_toList] at hx
  rcases hx with rfl | rfl | hx | hx | hx
  · exact h.top.lt
  · exact h.rd.lt
  · exact h.pg.old x hx
  · exact h.free.old x hx
  · exact (World.ownsRow.lt h.pcs x hx).2
theorem DbAt.readers {w w' : World} {d : Di} (h : DbAt w d) {s' : St} (ho : Off [d.r] w w') (hr : Bk w' d.r 195 s'.cells) : DbAt w' { d with s := s' } := by
  have hbr : d.b ≠ d.r := h.top.ne h.rd (by decide)
  have hne : ∀ x, x ∈ d.T ++ (d.Sf ++ d.pv.ownBlock.toList) → x ∉ [d.r] := fun x hx he => by
    rw [List.mem_singleton] at he
    subst he
    exact h.ro hx
  exact ⟨ho.bk h.top (by simpa using hbr), h.pg.off ho (fun x hx => hne x (by simp [hx])), hr, h.free.off ho (fun x hx => hne x (by simp [hx])), ho.own h.pcs (fun x hx => hne x (by simp [hx])), h.bo, h.ro⟩
set_option maxHeartbeats 8000000 in
theorem dbmeta_g {w : World} {d : Di} (h : DbAt w d) : Calls Tryz.prog 14 #[.pointer (some ⟨d.b, 0, none⟩)] w (SaysM d.P.m w) := by
  obtain ⟨b, q, r, f, g, T, Sf, P, s, fr, pv, pcs, wv⟩ := d
  have c0 : w.cell? ⟨b, 0, none⟩ = some (.pointer (some ⟨q, 0, none⟩)) := h.top.cell 0
  have lb : b < w.heap.size := h.top.lt
  have HP := Lib.hid (pmeta_any (h.pg.below ((Below.refl _ w).alloc (Nat.le_refl _) (.cells #[.int .i64 0, .int .i64 0, .int .i64 0, .int .i64 0, .int .i64 0] 40))))
  clear h
  simp only at HP ⊢
  go_enter Tryz.func14, Tryz.ntmps14
  go_wp2_with fail
  refine HP.out.mono ?_
  rintro e w1 ⟨rfl, hb1⟩
  have hz := bk_below (Bk.new w 40 #[.int .i64 0, .int .i64 0, .int .i64 0, .int .i64 0, .int .i64 0]) hb1
  have HZ := Lib.hid hz
  have HB := Lib.hid (((Below.refl _ w).alloc (Nat.le_refl _) (.cells #[.int .i64 0, .int .i64 0, .int .i64 0, .int .i64 0, .int .i64 0] 40)).trans (hb1.mono (by simp)))
  have lz := hz.lt
  obtain ⟨x0, x1, x2, x3, x4⟩ := hz.five
  have y0 := hz.frozen 0
  have y1 := hz.frozen 1
  have y2 := hz.frozen 2
  have y3 := hz.frozen 3
  have y4 := hz.frozen 4
  clear hz hb1
  go_wp2_with fail
  obtain ⟨s0, s1, s2, s3, s4⟩ := HZ.out.setFive (.int .i64 P.m.t) (.int .i64 P.m.r) (.int .i64 P.m.f) (.int .i64 P.m.p) (.int .i64 P.m.l)
  refine bodyPost_ret (v := .agg #[.int .i64 P.m.t, .int .i64 P.m.r, .int .i64 P.m.f, .int .i64 P.m.p, .int .i64 P.m.l]) (by simp [results, Tryz.results14, go_sem, lz, s0, s1, s2, s3, s4]) rfl ⟨rfl, ?_⟩
  exact ((Off.of_below HB.out []).then ((((((Off.refl [w.heap.size] w1).setCell (.inl (by simp)) _).setCell (.inl (by simp)) _).setCell (.inl (by simp)) _).setCell (.inl (by simp)) _).setCell (.inl (by simp)) _) (fun x hx => by rw [List.mem_singleton] at hx; subst hx; exact .inr (Nat.le_refl _))).below (Nat.le_refl _) (by simp)
def SnapG (w : World) (s b : Nat) (i : Int) (m : MetaV) (pv : Value) (over : Bool) : Prop := Bk w s 115 #[.pointer (some ⟨b, 0, none⟩), .int .i64 i, .int .i64 m.t, .int .i64 m.r, .int .i64 m.f, .int .i64 m.p, .int .i64 m.l, pv, .bool over]
theorem gmay_ok {w : World} {sp b : Nat} {i : Int} {m : MetaV} {pv : Value} (h : SnapG w sp b i m pv false) : Calls Tryz.prog 57 #[.pointer (some ⟨sp, 0, none⟩)] w (fun e w' => e = .returned (.int .i64 0) ∧ w = w') := by
  have c8 := Bk.cell h 8
  have ls := Bk.lt h
  clear h
  go_enter Tryz.func57, Tryz.ntmps57
  go_wp2_with fail
  go_ret
  exact ⟨rfl, rfl⟩
set_option maxHeartbeats 8000000 in
theorem snap_g {w : World} {d : Di} {s' : St} {i : Int} (h : DbAt w d) (hE : d.s.enter d.P.m.t = (s', i, 0)) : Calls Tryz.prog 15 #[.pointer (some ⟨d.b, 0, none⟩)] w (fun e w' => ∃ sp, e = .returned (.tuple #[.pointer (some ⟨sp, 0, none⟩), .int .i64 0]) ∧ Off [d.r] w w' ∧ DbAt w' { d with s := s' } ∧ SnapG w' sp d.b i d.P.m d.pv false ∧ w.heap.size ≤ sp) := by
  have HD := Lib.hid h
  have HM := Lib.hid (dbmeta_g (h.below (Below.refl _ w).drew))
  have HM2 := Lib.hid fun (W : World) (hW : DbAt W { d with s := s' }) => (show Calls Tryz.prog 14 #[.pointer (some ⟨d.b, 0, none⟩)] W (SaysM d.P.m W) from dbmeta_g (d := { d with s := s' }) hW)
  have HEN := Lib.hid fun (W : World) (hW : Below w.heap.size w W) => (show Calls Tryz.prog 56 #[.pointer (some ⟨d.r, 0, none⟩), .int .i64 d.P.m.t] W (EnterPost i 0 d.r s'.cells W) from by have := enter_any d.r d.P.m.t d.s W (bk_below h.rd hW); rw [hE] at this; exact this)
  have hbr : d.b ≠ d.r := h.top.ne h.rd (by decide)
  have HKS := Lib.hid (show ∀ W, Off [d.r] w W → W.cell? ⟨d.b, 1, none⟩ = some (.pointer (some ⟨d.r, 0, none⟩)) from fun W hW => (hW.bk h.top (by simpa using hbr)).cell 1)
  obtain ⟨Ap, cp, hpv, -, -⟩ := own_formK h.pcs
  obtain ⟨n, hn⟩ : ∃ n, n = d.pcs.length := ⟨_, rfl⟩
  rw [← hn] at hpv
  obtain ⟨b, q, r, f, g, T, Sf, P, s, fr, pv, pcs, wv⟩ := d
  have lb : b < w.heap.size := h.top.lt
  have hf0 := mfld0
  simp only at HD HM HM2 HEN HKS hpv ⊢
  subst hpv
  clear hn
  clear h hE hbr
  go_enter Tryz.func15, Tryz.ntmps15
  go_wp2_with fail
  go_region_held3 (fun W => W.cell? ⟨b, 1, none⟩ = some (.pointer (some ⟨r, 0, none⟩))) (first | exact HKS.out _ (Off.refl _ _).drew | exact HKS.out _ hk1.out | exact HKS.out _ hk2.out) (first
    | (go_at_call 14; refine HM.out.mono ?_; rintro e w1 ⟨rfl, hb1⟩; have HB1 := Lib.hid (show Below w.heap.size w w1 from (Below.refl _ w).drew.trans hb1); have hk1 := Lib.hid (Off.of_below HB1.out [r]); clear hb1)
    | (go_at_call 56; refine (HEN.out _ HB1.out).mono ?_; rintro e w2 ⟨rfl, hr2, ho2⟩; have HR2 := Lib.hid hr2; have hk2 := Lib.hid (hk1.out.trans ho2); clear hr2 ho2))
  all_goals
    have hd2 := HD.out.readers hk2.out HR2.out
    have HM3 := Lib.hid (HM2.out _ (hd2.below (Below.refl _ w2).drew))
    have HD2 := Lib.hid hd2
    have lb2 : b < w2.heap.size := hd2.top.lt
    have HKT := Lib.hid (show ∀ W, Below w2.heap.size w2 W → W.cell? ⟨b, 3, none⟩ = some (.slice Ap n cp) from fun W hW => (bk_below HD2.out.top hW).cell 3)
    clear hd2
    go_wp2_with fail
    go_region_held3 (fun W => W.cell? ⟨b, 3, none⟩ = some (.slice Ap n cp)) (first | exact HKT.out _ (Below.refl _ _).drew | exact HKT.out _ hk3.out | exact HKT.out _ (hk3.out.alloc hk3.out.size _)) (first
      | (go_at_call 14; refine HM3.out.mono ?_; rintro e w3 ⟨rfl, hb3⟩; have hk3 := Lib.hid (show Below w2.heap.size w2 w3 from (Below.refl _ w2).drew.trans hb3); clear hb3))
    all_goals
      go_wp2_with fail
      go_ret2
      exact ⟨w3.heap.size, rfl, (hk2.out.trans (Off.of_below hk3.out [r])).alloc _, (HD2.out.below hk3.out).off ((Off.refl [] _).alloc _) (by simp), Bk.new w3 _ _, Nat.le_trans hk2.out.size hk3.out.size⟩
theorem sget_nil (name key : ByteArray) (w : World) : Calls Tryz.prog 16 #[.pointer none, .string name, .string key] w (fun e w' => e = .returned (.tuple #[.string ⟨#[]⟩, .bool false, .int .i64 2]) ∧ w = w') := by
  have HM := Lib.hid (smay_nil w)
  go_enter Tryz.func16, Tryz.ntmps16
  go_wp2_with fail
  refine HM.out.mono ?_
  rintro e w1 ⟨rfl, rfl⟩
  go_wp2_with fail
  go_ret3
  exact ⟨rfl, rfl⟩
set_option maxHeartbeats 8000000 in
theorem sget_any {w : World} {sp b q : Nat} {cs : Array Value} {i : Int} {m : MetaV} {pv : Value} (hs : SnapG w sp b i m pv false) (hb : Bk w b 99 cs) (h0 : cs[0]? = some (.pointer (some ⟨q, 0, none⟩)))
    {K : Kr} (hK : K.Ok) (hq : K.q = q) (hp : Pg w K.q K.T K.g K.P) (hd : Dev w K.g K.Sd K.D) (hr : RowAt w) {Fo : Forest} (ho : Fo.Ok K.disk) (hR : ∀ n, Fo.R n = none) (hm : m.r = Fo.main.root) (name key : ByteArray) (hn : IsName name) :
    Calls Tryz.prog 16 #[.pointer (some ⟨sp, 0, none⟩), .string name, .string key] w (fun e w' => Below w.heap.size w w' ∧ ∃ v, e = .returned v ∧ GetsV (Fo.tr name).L key v) := by
  subst hq
  have HM := Lib.hid (gmay_ok hs)
  have HSN := Lib.hid (show Bk w sp 115 #[.pointer (some ⟨b, 0, none⟩), .int .i64 i, .int .i64 m.t, .int .i64 m.r, .int .i64 m.f, .int .i64 m.p, .int .i64 m.l, pv, .bool false] from hs)
  have c0 : w.cell? ⟨sp, 0, none⟩ = some (.pointer (some ⟨b, 0, none⟩)) := Bk.cell hs 0
  have c3 : w.cell? ⟨sp, 3, none⟩ = some (.int .i64 m.r) := Bk.cell hs 3
  have ls := Bk.lt hs
  have lb := hb.lt
  have d0 : w.cell? ⟨b, 0, none⟩ = some (.pointer (some ⟨K.q, 0, none⟩)) := (hb.cell 0).trans h0
  have hat : (stillStore K).At w (K.q :: 0 :: (K.T ++ K.Sd)) K.disk 0 := ⟨hp, hd, hr, rfl, rfl, rfl⟩
  have HR := Lib.hid fun (W : World) (hb : Below w.heap.size w W) => (show Calls Tryz.prog 58 #[.iface 117 (.agg #[.pointer (some ⟨K.q, 0, none⟩)]), .int .i64 m.r, .string name] W (fun e w' => Below W.heap.size W w' ∧ e = .returned (.tuple #[.int .i64 (Fo.tr name).root, .int .i64 0])) from by
    rw [hm]
    refine (rootof_any (still_reads hK) ((still_reads hK).below hat hb) Fo.main.root (ho.main.deep (List.nodup_append.1 ho.nodup).1) ho.main.ents ho.names name hn.1 hn.2).mono ?_
    rintro e w' ⟨hb', r, rfl, hr⟩
    rw [RootIs.fun_ ho.main.rising hr (ho.law0 name (hR name))]
    exact ⟨hb', rfl⟩)
  have hdeep : Tr.Deep K.disk (Fo.tr name).root (Fo.tr name).L := (ho.each name).deep (by
    by_cases hc : name ∈ Fo.NS
    · obtain ⟨a, b, -, -, -, hp⟩ := ho.split hc
      exact (List.nodup_append.1 (hp.nodup_iff.1 ho.nodup)).1
    · rw [ho.out name hc]; exact List.nodup_nil)
  have HG := Lib.hid fun (W : World) (hb : Below w.heap.size w W) => (show Calls Tryz.prog 59 #[.iface 117 (.agg #[.pointer (some ⟨K.q, 0, none⟩)]), .int .i64 (Fo.tr name).root, .string key] W (fun e w' => Below W.heap.size W w' ∧ ∃ v, e = .returned v ∧ GetsV (Fo.tr name).L key v) from get_any (still_reads hK) ((still_reads hK).below hat hb) (Fo.tr name).root hdeep (ho.each name).ents key)
  clear hs hb h0 hK hp hd hr ho hR hm hat hdeep
  go_enter Tryz.func16, Tryz.ntmps16
  go_wp2_with fail
  refine HM.out.mono ?_
  rintro e w1 ⟨rfl, rfl⟩
  go_wp2_with fail
  have HKT := Lib.hid (show ∀ W, Below (w.alloc (.cells #[.pointer (some ⟨K.q, 0, none⟩)] 117)).heap.size (w.alloc (.cells #[.pointer (some ⟨K.q, 0, none⟩)] 117)) W → W.cell? ⟨w.heap.size, 0, none⟩ = some (.pointer (some ⟨K.q, 0, none⟩)) ∧ W.cell? ⟨sp, 3, none⟩ = some (.int .i64 m.r) from fun W hW => ⟨(bk_below (Bk.new w _ _) hW).cell 0, (bk_below (Bk.alloc HSN.out _) hW).cell 3⟩)
  go_region_held3 (fun W => W.cell? ⟨w.heap.size, 0, none⟩ = some (.pointer (some ⟨K.q, 0, none⟩)) ∧ W.cell? ⟨sp, 3, none⟩ = some (.int .i64 m.r)) (first | exact HKT.out _ (Below.refl _ _).drew | exact HKT.out _ hk2.out) (first
    | (go_at_call 58; refine (HR.out _ ((Below.refl _ w).alloc (Nat.le_refl _) _).drew).mono ?_; rintro e w2 ⟨hb2, rfl⟩; have hk2 := Lib.hid ((Below.refl (w.alloc (.cells #[.pointer (some ⟨K.q, 0, none⟩)] 117)).heap.size (w.alloc (.cells #[.pointer (some ⟨K.q, 0, none⟩)] 117))).drew.trans (hb2.mono (by simp))))
    | fail)
  all_goals
    have hz := bk_below (Bk.new w 117 #[.pointer (some ⟨K.q, 0, none⟩)]).drew hb2
    have z0 := hz.cell 0
    have lz := hz.lt
    have HB2 := Lib.hid (((Below.refl _ w).alloc (Nat.le_refl _) (.cells #[.pointer (some ⟨K.q, 0, none⟩)] 117)).drew.trans (hb2.mono (by simp)))
    clear hb2 hz
    go_wp2_with fail
    refine (HG.out _ HB2.out).mono ?_
    rintro e w3 ⟨hb3, v, rfl, hv⟩
    have HB3 := Lib.hid (HB2.out.trans (hb3.mono HB2.out.size))
    clear hb3
    rcases hv with ⟨y, hy, hk, rfl⟩ | ⟨hno, rfl⟩
    · have HV := Lib.hid (show GetsV (Fo.tr name).L key (.tuple #[.string ⟨y.val.toArray⟩, .bool true, .int .i64 0]) from .inl ⟨y, hy, hk, rfl⟩)
      obtain ⟨s, hs⟩ : ∃ s, s = (⟨y.val.toArray⟩ : ByteArray) := ⟨_, rfl⟩
      rw [← hs] at HV ⊢
      clear hs hy hk
      go_wp2_with fail
      go_ret3
      exact ⟨HB3.out, _, rfl, HV.out⟩
    · have HV := Lib.hid (show GetsV (Fo.tr name).L key (.tuple #[.string ⟨#[]⟩, .bool false, .int .i64 0]) from .inr ⟨hno, rfl⟩)
      clear hno
      go_wp2_with fail
      go_ret3
      exact ⟨HB3.out, _, rfl, HV.out⟩
end Go.Proofs.YtjbcbnemdhbhbaaGreatDoor
namespace Go.Proofs.YtjbcbnemdhbhbaaGreatDoor
open Go.RowKit
set_option maxRecDepth 100000
set_option linter.unusedVariables false
set_option linter.unusedSimpArgs false
theorem numAt_low (r : Nat) (h : r < 512) : numAt ⟨(Be.low r 4).toArray⟩ 0 4 = r := by
  unfold numAt
  have : ((Be.low r 4).toArray.toList.drop 0).take 4 = Be.low r 4 := by
    rw [List.drop_zero, List.take_of_length_le (by rw [Be.low_len]; exact Nat.le_refl 4)]
  show Be.num (((Be.low r 4).toArray.toList.drop 0).take 4) = r
  rw [this]
  exact Be.num_low_fit r 4 (by omega)
theorem Kv.Ok.rooted {E : Kv} (h : E.Ok) (r : Int) : Kv.Ok { E with root := r } := ⟨h.txn, h.txn2, h.on, h.steps, h.lim, h.page, h.upto⟩
structure Told (E : Kv) (F : Prop) (w : World) (S : List Nat) (k : Nat) (Fo : Forest) (ns : List ByteArray) (c : Nat) (j : Nat) (w' : World) (G : Forest) (σ' : Book) (S' : List Nat) (k' : Nat) : Prop where
  tr : G.tr = Fo.tr
  NS : G.NS = Fo.NS
  R : ∀ n, G.R n = if Forest.known (ns.take j) n = true then none else Fo.R n
  len : G.main.L.length ≤ Fo.main.L.length + j
  ok : G.Ok σ'
  at_ : (kvStore { E with root := G.main.root } F).At w' S' σ' k'
  cost : k ≤ k' + j * c
  off : Off S w w'
  fresh : Fresh w S S'
def NamesWay (E : Kv) (F : Prop) (S : List Nat) (k : Nat) (Fo : Forest) (w : World) (e : Ending) (w' : World) : Prop :=
  (e = .returned (.int .i64 0) ∧ ∃ (G : Forest) (σ' : Book) (S' : List Nat) (k' : Nat), G.tr = Fo.tr ∧ G.NS = Fo.NS ∧ (∀ n, G.R n = none) ∧ G.Ok σ' ∧ (kvStore { E with root := G.main.root } F).At w' S' σ' k' ∧ k ≤ k' + Fo.NS.length * (Tr.need (Fo.main.L.length + Fo.NS.length) + 1) ∧ Off S w w' ∧ Fresh w S S')
  ∨ (F ∧ e = .returned (.int .i64 9) ∧ ∃ (r : Int) (σ' : Book) (S' : List Nat), (kvStore { E with root := r } F).At w' S' σ' 0 ∧ Off S w w' ∧ Fresh w S S')
theorem tells_name {G : Forest} {σ σ' : Book} (h : G.Ok σ) {name : ByteArray} {r root : Nat} {P' : List Nat} {y : En} (hr : G.R name = some r) (hnz : r ≠ 0) (hyk : y.cell.key = name) (hyv : y.val = Be.low r 4) (ht : Tr.Root σ' root P' (Tr.putE name y G.main.L)) (hm : Tr.Moved σ G.main.P σ' P') :
    (G.tell ⟨root, P', Tr.putE name y G.main.L⟩ name).Ok σ' := by
  obtain ⟨e1, e2⟩ := h.law name r hr
  have hs : r < 512 := by rw [e1]; exact (h.each name).small
  have hval : numAt ⟨y.val.toArray⟩ 0 4 = r := by rw [hyv]; exact numAt_low r hs
  have hris := h.main.rising
  refine h.tell (t := ⟨root, P', Tr.putE name y G.main.L⟩) ht hm (fun e he => ?_) name ?_ (fun m r' hmn hri => ?_)
  · rcases (Tr.putE_in hris hyk e).1 he with rfl | ⟨he, -⟩
    · exact ⟨by rw [hyv, Be.low_len], by rw [hval]; omega, by rw [hval]; exact hs⟩
    · exact h.names e he
  · rw [RootIs.put hris hyk, if_pos rfl, hval, e1]
  · rw [RootIs.put hris hyk, if_neg hmn]
    exact hri
set_option maxHeartbeats 16000000 in
theorem names_any {E : Kv} (hE : E.Ok) {F : Prop} {w : World} {S : List Nat} {σ : Book} {k nr : Nat} {Fo : Forest} (h : Wr E F w S σ k Fo nr) (hnr : nr ≤ 1000000) (hnz : ∀ n r, Fo.R n = some r → r ≠ 0) (hk : F ∨ Fo.NS.length * (Tr.need (Fo.main.L.length + Fo.NS.length) + 1) ≤ k) :
    Calls Tryz.prog 109 #[.pointer (some ⟨E.t, 0, none⟩)] w (NamesWay E F S k Fo w) := by
  obtain ⟨x, f, dm, lv, fv, hc⟩ := h.cells
  obtain ⟨n0, hn0, hm⟩ := h.roots
  have c11 : w.cell? ⟨E.t, 11, none⟩ = some (.map (some E.rm)) := hc.cell 11
  have lt := hc.lt
  have HK1 := Lib.hid fun (W : World) => nkeys E.rm W
  have HK2 := Lib.hid (nsorted hm (by omega))
  have hS := (kv_serves hE F).old h.at_
  have HW := Lib.hid h
  have HS := Lib.hid hS
  have HE := Lib.hid hE
  have HNZ := Lib.hid hnz
  have HKK := Lib.hid hk
  have HM := Lib.hid hm
  clear h hc hm hS hE hnz hk
  go_enter Tryz.func109, Tryz.ntmps109
  go_wp2_with fail
  refine (HK1.out _).mono ?_
  rintro e w0 ⟨rfl, rfl⟩
  go_wp2_with fail
  refine HK2.out.mono ?_
  rintro e w1 ⟨v, ns, rfl, hnd, hmem, hlen, hown, hb1⟩
  have hb1' : Below w.heap.size w w1 := ((Below.refl _ w).alloc (Nat.le_refl _) (.cells #[.map (some E.rm)] 101)).trans (hb1.mono (by simp))
  obtain ⟨A, c, rfl, hnc, hcm, hnl, hsl, hblk⟩ := own_slice hown
  clear hnl
  have HB1 := Lib.hid hb1'
  have HSL := Lib.hid hsl
  have HBL := Lib.hid (show ∀ a, A = some a → a.block ∉ S from fun a ha hs => by have := (hblk a ha).1; have := HS.out _ hs; omega)
  have HMEM := Lib.hid hmem
  have HND := Lib.hid hnd
  have hsub : ∀ n ∈ ns, ∃ r, Fo.R n = some r := fun n hn => by
    have := (HMEM.out n).1 hn
    unfold rootsV at this
    cases hr : Fo.R n with
    | none => rw [hr] at this; cases this
    | some r => exact ⟨r, rfl⟩
  have hns : ns.length ≤ Fo.NS.length := len_sub ns Fo.NS hnd (fun n hn => by obtain ⟨r, hr⟩ := hsub n hn; exact (HW.out.ok.law n r hr).2)
  have HSUB := Lib.hid hsub
  have HNS := Lib.hid hns
  have hnl : ns.length ≤ 1000000 := by omega
  have hcm2 : c ≤ 9223372036854775807 := by unfold maxLen at hcm; omega
  obtain ⟨q, hq⟩ : ∃ q, q = Tr.need (Fo.main.L.length + Fo.NS.length) + 1 := ⟨_, rfl⟩
  have HQ := Lib.hid hq
  have HKQ := Lib.hid (show F ∨ Fo.NS.length * q ≤ k by rw [hq]; exact HKK.out)
  have h0 : Hid (∃ G σ' S' k', Told E F w1 S k Fo ns q 0 w1 G σ' S' k') := ⟨Fo, σ, S, k, rfl, rfl, fun n => by simp [Forest.known], Nat.le_add_right _ _, HW.out.ok, by
    have := (HW.out.below HE.out HB1.out).at_
    have hr : ({ E with root := (Fo.main.root : Int) } : Kv) = E := by rw [← HW.out.root]
    rw [hr]
    exact this, by omega, Off.refl S w1, Fresh.refl _ _⟩
  clear hown hb1 hb1' hsl hblk hmem hnd hlen hsub hns hq c11 HKK HK2
  go_wp2_with fail
  go_loopw [16] (fun i wr => ∃ j : Nat, i = .int .i64 j ∧ j ≤ ns.length ∧ Hid (∃ G σ' S' k', Told E F w1 S k Fo ns q j wr G σ' S' k')) (fun i _ => ns.length - (intOf i).toNat)
  case atStart => exact ⟨0, rfl, Nat.zero_le _, h0⟩
  case round =>
    obtain ⟨j, rfl, hj, hI⟩ := hrel
    obtain ⟨G, σj, Sj, kj, hT⟩ := hI.out
    by_cases hlt : j < ns.length
    · have z1 : decide ((j : Int) < (ns.length : Int)) = true := decide_eq_true (by omega)
      have hoff : Off S w wr := (Off.of_below HB1.out S).trans hT.off
      obtain ⟨nm, hnm⟩ : ∃ nm, nm = ns[j] := ⟨_, rfl⟩
      have hnmem : nm ∈ ns := by rw [hnm]; exact List.getElem_mem hlt
      obtain ⟨r, hr⟩ := HSUB.out nm hnmem
      have htake : ns.take (j + 1) = ns.take j ++ [nm] := by rw [hnm]; exact List.take_succ_eq_append_getElem hlt
      have hnot : nm ∉ ns.take j := fun hm => by
        have h1 : (ns.take (j + 1)).Nodup := List.Nodup.sublist (List.take_sublist _ _) HND.out
        rw [htake] at h1
        exact (List.nodup_append.1 h1).2.2 nm hm nm (by simp) rfl
      have hGr : G.R nm = some r := by rw [hT.R nm, if_neg (fun h => hnot (Forest.known_iff.1 h))]; exact hr
      have hr0 := HNZ.out nm r hr
      obtain ⟨hre, hin⟩ := hT.ok.law nm r hGr
      have hrs : r < 512 := by rw [hre]; exact (hT.ok.each nm).small
      have hnv := hT.ok.valid nm hin
      obtain ⟨b, o, rfl, hb, hcell⟩ := (HSL.out.off hT.off HBL.out) j (.string nm) (by rw [hnm]; simp [hlt])
      obtain ⟨x3, f3, dm3, nn3, Sf3, lv3, fv3, hm3, hσ3, hk3⟩ := hT.at_
      have q11 : wr.cell? ⟨E.t, 11, none⟩ = some (.map (some E.rm)) := hm3.cells.cell 11
      have q3 : wr.cell? ⟨E.t, 3, none⟩ = some (.int .i64 (G.main.root : Nat)) := hm3.cells.cell 3
      have lt3 : E.t < wr.heap.size := hm3.cells.lt
      have hl1 : (Instr.lookup 101 (.map (some E.rm)) (.string nm) false).run Tryz.prog wr = .ok (.int .i64 r) wr := by
        have h1 := (HM.out.off hoff HW.out.rm).look Tryz.underlying9 Tryz.underlying101 (z := .int .i64 0) (by kernel_rfl) (s := nm) (by have := hnv.2; unfold maxLen; omega)
        unfold rootsV at h1
        rw [hr] at h1
        exact h1
      have z2 : ((r : Int) == 0) = false := by rw [beq_eq_false_iff_ne]; omega
      have z3 : (r == 0) = false := by rw [beq_eq_false_iff_ne]; omega
      have y3 : IntKind.u64.wrap (r : Int) = r := by rw [IntKind.wrap_u64]; omega
      obtain ⟨s, hs⟩ : ∃ s : ByteArray, s = (⟨#[]⟩ : ByteArray) ++ ⟨(Be.low r 4).toArray⟩ := ⟨_, rfl⟩
      have hsl9 : s.data.toList = Be.low r 4 := by rw [hs]; simp
      have hss : s.size = 4 := by
        have : s.data.toList.length = 4 := by rw [hsl9, Be.low_len]
        rw [Array.length_toList] at this
        exact this
      have HPF := Lib.hid fun (W : World) => (show Calls Tryz.prog 160 #[.string ⟨#[]⟩, .int .u64 r, .int .i64 4] W (TellsSE s 0 W) from by rw [hs]; exact put_ok ⟨#[]⟩ r 4 W (by show 0 ≤ 1000000; omega) (by omega) (by omega) (by omega))
      have hjn : j + 1 ≤ Fo.NS.length := by have := HNS.out; omega
      have hkj : F ∨ q ≤ kj := HKQ.out.imp id (fun h9 => by
        have h1 := hT.cost
        have h2 := Nat.mul_le_mul_right q hjn
        rw [Nat.succ_mul] at h2
        omega)
      have hsrv := kv_serves (HE.out.rooted (G.main.root : Nat)) F
      have hndm := (List.nodup_append.1 hT.ok.nodup).1
      have hneed : Tr.RootC σj (Tr.need (Fo.main.L.length + Fo.NS.length)) G.main.root G.main.P G.main.L := hT.ok.main.needs (by have := hT.len; omega)
      have hkj2 : F ∨ Tr.need (Fo.main.L.length + Fo.NS.length) + 1 ≤ kj := by rw [← HQ.out]; exact hkj
      have HTP := Lib.hid fun (W : World) (hb : Below wr.heap.size wr W) => (show Calls Tryz.prog 48 #[.iface 111 (.agg #[.pointer (some ⟨E.t, 0, none⟩)]), .int .i64 (G.main.root : Nat), .string nm, .string s] W (fun e w' => ∃ a b : Int, e = .returned (.tuple #[.int .i64 a, .int .i64 b]) ∧ Hid (PutTells (kvStore { E with root := (G.main.root : Nat) } F) Sj σj kj (Tr.need (Fo.main.L.length + Fo.NS.length)) G.main.P G.main.L nm s W (.returned (.tuple #[.int .i64 a, .int .i64 b])) w')) from
        (put_any hsrv (hsrv.below hT.at_ hb) G.main.root hneed hndm nm s hnv.1 (by have := hnv.2; omega) (by omega) hkj2).mono fun e w' ⟨y, e1, e2, e3, e4⟩ => by
          obtain ⟨a, b, rfl, h5⟩ := e4.letters
          exact ⟨a, b, rfl, Lib.hid ⟨y, e1, e2, e3, h5.out⟩⟩)
      have HT := Lib.hid hT
      have HSJ := Lib.hid (hsrv.old hT.at_)
      have HPL := Lib.hid (show nm ∉ ns.take j ∧ ns.take (j + 1) = ns.take j ++ [nm] ∧ G.R nm = some r ∧ r ≠ 0 ∧ s.data.toList = Be.low r 4 ∧ Fo.R nm = some r from ⟨hnot, htake, hGr, hr0, hsl9, hr⟩)
      clear hT hI h0 hm3 hσ3 hk3 hnot htake hGr hr0 hre hin hnv hsl9 hs hr hnm hnmem hkj hsrv hndm hoff hneed hkj2
      go_wp2_with fail
      refine (HPF.out _).mono ?_
      rintro e w2 ⟨rfl, hb2⟩
      have HB2 := Lib.hid hb2
      have q3' : w2.cell? ⟨E.t, 3, none⟩ = some (.int .i64 (G.main.root : Nat)) := (hb2.cell (p := ⟨E.t, 3, none⟩) lt3).trans q3
      have lt2 : E.t < w2.heap.size := Nat.lt_of_lt_of_le lt3 hb2.size
      clear hb2 q3 q11 hl1 hcell
      go_wp2_with fail
      refine (HTP.out _ HB2.out).mono ?_
      rintro e w4 ⟨a, b9, rfl, hw4⟩
      obtain ⟨y, e1, e2, e3, e4⟩ := hw4.out
      rcases e4 with ⟨root, P', σ', S', k', e5, hrt, hmv, hat, hk', hof, hfr⟩ | ⟨hF, e5, σ', S', hat, hof, hfr⟩
      · injection e5 with e5
        injection e5 with e5
        simp only [Array.mk.injEq, List.cons.injEq, Value.int.injEq, true_and, and_true] at e5
        obtain ⟨rfl, rfl⟩ := e5
        obtain ⟨x4, f4, dm4, nn4, Sf4, lv4, fv4, hm4, hσ4, hk4⟩ := hat
        have q34 : w4.cell? ⟨E.t, 3, none⟩ = some (.int .i64 (G.main.root : Nat)) := hm4.cells.cell 3
        have f34 := hm4.cells.frozen 3
        have lt4 : E.t < w4.heap.size := hm4.cells.lt
        have hbk4 : Bk (w4.setCell ⟨E.t, 3, none⟩ (.int .i64 (root : Nat))) E.t 103 (txCells { E with root := (root : Nat) } x4 f4 dm4 lv4 fv4) := by
          have := hm4.cells.put 3 (.int .i64 (root : Nat))
          exact this
        have hm5 := KvMem.other (E' := { E with root := (root : Nat) }) hm4 hbk4 ((Off.refl [E.t] w4).setCell (p := ⟨E.t, 3, none⟩) (.inl (by simp)) _) ⟨rfl, rfl, rfl, rfl, rfl, rfl, rfl, rfl, rfl, rfl, rfl, rfl, rfl, rfl, rfl, rfl, rfl, rfl, rfl⟩
        have ht4 : E.t ∈ S' := by rw [hm4.blocks]; simp [txMut]
        have hof4 : Off Sj wr w4 := (Off.of_below HB2.out Sj).trans hof
        have hfr4 : Fresh wr Sj S' := hfr.mono HB2.out.size
        have hof5 : Off Sj wr (w4.setCell ⟨E.t, 3, none⟩ (.int .i64 (root : Nat))) := hof4.setCell (p := ⟨E.t, 3, none⟩) (hfr4 _ ht4) _
        have HN := Lib.hid (show ∃ G σ' S' k', Told E F w1 S k Fo ns q (j + 1) (w4.setCell ⟨E.t, 3, none⟩ (.int .i64 (root : Nat))) G σ' S' k' from by
          obtain ⟨p1, p2, p3, p4, p5, p6⟩ := HPL.out
          have hG := tells_name HT.out.ok p3 p4 e1 (by rw [e2]; exact p5) hrt hmv
          refine ⟨G.tell ⟨root, P', Tr.putE nm y G.main.L⟩ nm, σ', S', k', HT.out.tr, HT.out.NS, fun m => ?_, ?_, hG, ⟨x4, f4, dm4, nn4, Sf4, lv4, fv4, hm5, hσ4, hk4⟩, ?_, HT.out.off.then hof5 HT.out.fresh, HT.out.fresh.trans hfr4 HT.out.off.size⟩
          · show (if m = nm then none else G.R m) = _
            by_cases hmn : m = nm
            · rw [if_pos hmn, if_pos (Forest.known_iff.2 (by rw [p2, hmn]; simp))]
            · rw [if_neg hmn, HT.out.R m]
              by_cases hkn : m ∈ ns.take j
              · rw [if_pos (Forest.known_iff.2 hkn), if_pos (Forest.known_iff.2 (by rw [p2]; simp [hkn]))]
              · rw [if_neg (fun h => hkn (Forest.known_iff.1 h)), if_neg (fun h => by
                  have := Forest.known_iff.1 h
                  rw [p2, List.mem_append, List.mem_singleton] at this
                  exact this.elim hkn hmn)]
          · have h1 := Tr.putE_len nm y G.main.L
            have h2 := HT.out.len
            show (Tr.putE nm y G.main.L).length ≤ _
            omega
          · have h1 := HT.out.cost
            have h2 := HQ.out
            rw [Nat.succ_mul]
            omega)
        clear hm4 hσ4 hk4 hbk4 hm5 ht4 hof4 hfr4 hof5 hrt hmv hk' hof hfr hw4 e1 e2 e3
        go_wp2_with fail
        go_roundw
        case rel => first | exact ⟨j + 1, by go_num, by omega, HN⟩ | ((repeat apply Exists.intro); exact ⟨⟨j + 1, by go_num, by omega, HN⟩, rfl⟩)
        case measure => simp [intOf]; omega
      · injection e5 with e5
        injection e5 with e5
        simp only [Array.mk.injEq, List.cons.injEq, Value.int.injEq, true_and, and_true] at e5
        obtain ⟨rfl, rfl⟩ := e5
        obtain ⟨x4, f4, dm4, nn4, Sf4, lv4, fv4, hm4, hσ4, hk4⟩ := hat
        have q34 : w4.cell? ⟨E.t, 3, none⟩ = some (.int .i64 (G.main.root : Nat)) := hm4.cells.cell 3
        have f34 := hm4.cells.frozen 3
        have lt4 : E.t < w4.heap.size := hm4.cells.lt
        have hbk4 : Bk (w4.setCell ⟨E.t, 3, none⟩ (.int .i64 0)) E.t 103 (txCells { E with root := 0 } x4 f4 dm4 lv4 fv4) := by
          have := hm4.cells.put 3 (.int .i64 0)
          exact this
        have hm5 := KvMem.other (E' := { E with root := 0 }) hm4 hbk4 ((Off.refl [E.t] w4).setCell (p := ⟨E.t, 3, none⟩) (.inl (by simp)) _) ⟨rfl, rfl, rfl, rfl, rfl, rfl, rfl, rfl, rfl, rfl, rfl, rfl, rfl, rfl, rfl, rfl, rfl, rfl, rfl⟩
        have ht4 : E.t ∈ S' := by rw [hm4.blocks]; simp [txMut]
        have hof4 : Off Sj wr w4 := (Off.of_below HB2.out Sj).trans hof
        have hfr4 : Fresh wr Sj S' := hfr.mono HB2.out.size
        have hof5 : Off Sj wr (w4.setCell ⟨E.t, 3, none⟩ (.int .i64 0)) := hof4.setCell (p := ⟨E.t, 3, none⟩) (hfr4 _ ht4) _
        have HEND := Lib.hid (show NamesWay E F S k Fo w (.returned (.int .i64 9)) (w4.setCell ⟨E.t, 3, none⟩ (.int .i64 0)) from
          .inr ⟨hF, rfl, 0, σ', S', ⟨x4, f4, dm4, nn4, Sf4, lv4, fv4, hm5, hσ4, hk4⟩, (Off.of_below HB1.out S).trans (HT.out.off.then hof5 HT.out.fresh), (HT.out.fresh.trans hfr4 HT.out.off.size).mono HB1.out.size⟩)
        clear hm4 hσ4 hk4 hbk4 hm5 ht4 hof4 hfr4 hof5 hof hfr hw4 e1 e2 e3
        go_wp2_with fail
        go_ret
        exact HEND.out
    · have z1 : decide ((j : Int) < (ns.length : Int)) = false := decide_eq_false (by omega)
      have hje : j = ns.length := by omega
      have HE9 := Lib.hid (show NamesWay E F S k Fo w (.returned (.int .i64 0)) wr from .inl ⟨rfl, G, σj, Sj, kj, hT.tr, hT.NS, fun n => by
        rw [hT.R n, hje, List.take_length]
        split
        · rfl
        · next hn0 =>
          have hn : n ∉ ns := fun h => hn0 (Forest.known_iff.2 h)
          cases hr : Fo.R n with
          | none => rfl
          | some r => exact absurd ((HMEM.out n).2 (by unfold rootsV; rw [hr]; rfl)) hn, hT.ok, hT.at_, by
        have h1 := hT.cost
        have h2 := Nat.mul_le_mul_right q HNS.out
        rw [hje] at h1
        rw [← HQ.out]
        omega, (Off.of_below HB1.out S).trans hT.off, hT.fresh.mono HB1.out.size⟩)
      clear hT hI h0
      go_wp2_with fail
      go_ret
      exact HE9.out
end Go.Proofs.YtjbcbnemdhbhbaaGreatDoor
namespace Go.Proofs.YtjbcbnemdhbhbaaGreatDoor
open Go.RowKit
set_option maxRecDepth 100000
set_option linter.unusedVariables false
set_option linter.unusedSimpArgs false
def SparePost (l : List (Nat × Nat)) (w : World) (e : Ending) (w' : World) : Prop := ∃ f2 S2, e = .returned (.tuple #[.pointer (some ⟨f2, 0, none⟩), .int .i64 0]) ∧ FLO w' f2 S2 l ∧ Below w.heap.size w w' ∧ ∀ b ∈ S2, w.heap.size ≤ b
structure Spared (w : World) (t : Nat) (fr : List (Nat × Nat)) (ms : List Nat) (f2 : Nat) (A3 : Option Addr) (j : Nat) (w' : World) (S2 : List Nat) : Prop where
  list : FLO w' f2 S2 (Fr.addAll t fr (ms.take j))
  below : Below w.heap.size w w'
  new : ∀ b ∈ S2, w.heap.size ≤ b
  row : Sl w' A3 (ints ms)
  apart : ∀ a, A3 = some a → a.block ∉ S2
set_option maxHeartbeats 16000000 in
theorem spare_any {E : Kv} (hE : E.Ok) {w : World} {S hd : List Nat} {x : Tx} {f dm nn : Nat} {Sf : List Nat} {lv fv : Value} (h : KvMem E w S hd x f dm nn Sf lv fv) (hpv : w.ownsRow 0 3 1 E.c3 E.pc.length (ints E.pc)) {A : Option Addr} {c : Nat} (hch : Sl w A (ints hd)) :
    Calls Tryz.prog 110 #[.pointer (some ⟨E.t, 0, none⟩), .slice A hd.length c] w (SparePost (Fr.addAll E.txn x.fr (x.more E.pc)) w) := by
  obtain ⟨hnd, hin, hlen⟩ := h.ok.spare
  have hsr := h.ok.sorted
  have hle := h.ok.le
  have hlim := h.ok.lim
  have htx := hE.txn2
  have HC := Lib.hid (fcopy_any h.free (by omega))
  obtain ⟨Al, cl, hlv, -, -⟩ := own_formK h.loose
  obtain ⟨Af, cf, hfv, -, -⟩ := own_formK h.freed
  obtain ⟨Ap, cp, hpw, -, -⟩ := own_formK hpv
  have HSL := Lib.hid (show Sl w Al (ints x.loose) from Sl.of_own (by have := h.loose; rw [hlv] at this; exact this))
  have HSF := Lib.hid (show Sl w Af (ints x.freed) from Sl.of_own (by have := h.freed; rw [hfv] at this; exact this))
  have HSP := Lib.hid (show Sl w Ap (ints E.pc) from Sl.of_own (by have := hpv; rw [hpw] at this; exact this))
  have HKS := Lib.hid (show ∀ W, Below w.heap.size w W → W.cell? ⟨E.t, 10, none⟩ = some (.slice Af x.freed.length cf) ∧ W.cell? ⟨E.t, 9, none⟩ = some (.slice Al x.loose.length cl) ∧ W.cell? ⟨E.t, 0, none⟩ = some (.pointer (some ⟨E.b, 0, none⟩)) ∧ W.cell? ⟨E.b, 3, none⟩ = some (.slice Ap E.pc.length cp) ∧ W.cell? ⟨E.t, 1, none⟩ = some (.int .i64 E.txn) from fun W hW => by
    have k1 := bk_below h.cells hW
    have k2 := bk_below h.db hW
    refine ⟨?_, ?_, k1.cell 0, ?_, k1.cell 1⟩
    · have := k1.cell 10
      rw [← hfv]; exact this
    · have := k1.cell 9
      rw [← hlv]; exact this
    · have := k2.cell 3
      rw [← hpw]; exact this)
  have HLM := Lib.hid (show x.freed.length + x.loose.length + E.pc.length ≤ 10000 from by
    have := hlen
    unfold Tx.more at this
    rw [List.length_append, List.length_append] at this
    have := h.ok.le
    have := h.ok.lim
    omega)
  have HMORE := Lib.hid (show x.freed ++ (x.loose ++ E.pc) = x.more E.pc from rfl)
  have HCH := Lib.hid hch
  obtain ⟨m1, hm1⟩ : ∃ m, m = hd.length := ⟨_, rfl⟩
  have hhd : hd.length ≤ 1000 := by
    obtain ⟨dk, k1, k2⟩ := h.ok.perm
    have h1 := k2.length_eq
    simp only [List.length_append, nums, List.length_map, List.length_range] at h1
    omega
  have HCT := Lib.hid fun (W : World) (hW : Below w.heap.size w W) (n : Nat) (hn : n ∈ x.more E.pc) => contains_no (c := c) (hch.below hW) (by omega) n (hin n hn).1
  have HMS := Lib.hid (show (∀ j (hj : j < (x.more E.pc).length), Fr.Sorted (Fr.addAll E.txn x.fr ((x.more E.pc).take j)) ∧ (Fr.addAll E.txn x.fr ((x.more E.pc).take j)).length = x.fr.length + j ∧ (x.more E.pc)[j] ∉ Fr.pg (Fr.addAll E.txn x.fr ((x.more E.pc).take j)) ∧ Fr.addAll E.txn x.fr ((x.more E.pc).take (j + 1)) = Fr.ins (Fr.addAll E.txn x.fr ((x.more E.pc).take j)) (E.txn, (x.more E.pc)[j])) from fun j hj => Fr.addAll_at hsr hnd j hj)
  have HIN := Lib.hid (show ∀ n ∈ x.more E.pc, Fr.ok (E.txn, n) = true from fun n hn => by
    have := (hin n hn).2
    unfold Fr.ok
    simp
    omega)
  have hfrl : x.fr.length + (x.more E.pc).length ≤ 512 := by omega
  have lt := h.cells.lt
  have lb := h.db.lt
  have c7 : w.cell? ⟨E.t, 7, none⟩ = some (.pointer (some ⟨f, 0, none⟩)) := h.cells.cell 7
  obtain ⟨ms, hms⟩ : ∃ ms, ms = x.more E.pc := ⟨_, rfl⟩
  rw [← hms] at HMORE HCT HMS HIN hfrl ⊢
  obtain ⟨fr, hfr⟩ : ∃ fr, fr = x.fr := ⟨_, rfl⟩
  rw [← hfr] at HC HMS hfrl ⊢
  obtain ⟨fd, hfd⟩ : ∃ l, l = x.freed := ⟨_, rfl⟩
  rw [← hfd] at HSF HKS HLM HMORE
  obtain ⟨ls, hls⟩ : ∃ l, l = x.loose := ⟨_, rfl⟩
  rw [← hls] at HSL HKS HLM HMORE
  obtain ⟨pc, hpc⟩ : ∃ l, l = E.pc := ⟨_, rfl⟩
  rw [← hpc] at HSP HKS HLM HMORE
  obtain ⟨tx, htxe⟩ : ∃ l, l = E.txn := ⟨_, rfl⟩
  rw [← htxe] at HKS HMS HIN htx ⊢
  obtain ⟨t, ht⟩ : ∃ l, l = E.t := ⟨_, rfl⟩
  rw [← ht] at HKS lt c7 ⊢
  obtain ⟨b, hb⟩ : ∃ l, l = E.b := ⟨_, rfl⟩
  rw [← hb] at HKS lb
  clear h hpv hch hnd hin hlen hsr hle hlim hlv hfv hpw hms hfr hfd hls hpc htxe ht hb hE hm1
  go_enter Tryz.func110, Tryz.ntmps110
  go_wp2_with fail
  refine HC.out.mono ?_
  rintro e w1 ⟨f2, S2, rfl, hfl, hb1, hnew⟩
  have HFL := Lib.hid hfl
  have HB1 := Lib.hid hb1
  have HNEW := Lib.hid hnew
  clear hfl hb1 hnew c7
  obtain ⟨q10, q9, q0, p3, q1⟩ := HKS.out w1 HB1.out
  have lt1 : t < w1.heap.size := Nat.lt_of_lt_of_le lt HB1.out.size
  have lb1 : b < w1.heap.size := Nat.lt_of_lt_of_le lb HB1.out.size
  have HCC := Lib.hid fun (W : World) (hb : Below w.heap.size w W) (k : Nat) (hk : Bk W k 51 #[.slice Af fd.length cf, .slice Al ls.length cl, .slice Ap pc.length cp]) => concat3_any hk (HSF.out.below hb) (HSL.out.below hb) (HSP.out.below hb) HLM.out
  rw [HMORE.out] at HCC
  have hbX : Below w.heap.size w ((w1.alloc (.cells #[.slice Af fd.length cf, .slice Al ls.length cl, .slice Ap pc.length cp] 51)).drew) := (HB1.out.alloc HB1.out.size _).drew
  have HCX := Lib.hid (HCC.out _ hbX w1.heap.size (Bk.new w1 _ _).drew)
  have HFLX := Lib.hid (show FLO ((w1.alloc (.cells #[.slice Af fd.length cf, .slice Al ls.length cl, .slice Ap pc.length cp] 51)).drew) f2 S2 fr from HFL.out.off (((Off.refl [] w1).alloc _).drew) (by simp))
  have HBX := Lib.hid hbX
  have hszX : w1.heap.size < ((w1.alloc (.cells #[.slice Af fd.length cf, .slice Al ls.length cl, .slice Ap pc.length cp] 51)).drew).heap.size := by simp
  have HS2 := Lib.hid HFL.out.old
  clear hbX HCC
  go_wp2_with fail
  have HKT := Lib.hid (show ∀ W, Below w.heap.size w W → W.cell? ⟨t, 10, none⟩ = some (.slice Af fd.length cf) ∧ W.cell? ⟨t, 9, none⟩ = some (.slice Al ls.length cl) ∧ W.cell? ⟨t, 0, none⟩ = some (.pointer (some ⟨b, 0, none⟩)) ∧ W.cell? ⟨b, 3, none⟩ = some (.slice Ap pc.length cp) from fun W hW => ⟨(HKS.out W hW).1, (HKS.out W hW).2.1, (HKS.out W hW).2.2.1, (HKS.out W hW).2.2.2.1⟩)
  go_region_held3 (fun W => W.cell? ⟨t, 10, none⟩ = some (.slice Af fd.length cf) ∧ W.cell? ⟨t, 9, none⟩ = some (.slice Al ls.length cl) ∧ W.cell? ⟨t, 0, none⟩ = some (.pointer (some ⟨b, 0, none⟩)) ∧ W.cell? ⟨b, 3, none⟩ = some (.slice Ap pc.length cp)) (first | exact HKT.out _ HB1.out.drew | exact HKT.out _ (HB1.out.drew.alloc HB1.out.drew.size _) | exact HKT.out _ HBX.out | exact HKT.out _ (HBX.out.trans (HB2.out.mono HBX.out.size)) | trace_state) (first
    | (go_at_call 74; refine HCX.out.mono ?_; rintro e w2 ⟨hb2, A3, c3, rfl, hown2⟩; have HB2 := Lib.hid hb2; have HO2 := Lib.hid hown2; clear hb2 hown2)
    | fail)
  all_goals
    clear q10 q9 q0 p3 q1
    have hbw2 : Below w.heap.size w w2 := HBX.out.trans (HB2.out.mono HBX.out.size)
    have h0 : Hid (Spared w tx fr ms f2 A3 0 w2 S2) := ⟨by simpa [Fr.addAll] using HFLX.out.below HB2.out, hbw2, HNEW.out, Sl.of_own HO2.out, fun a ha hs => by
      have h1 := (World.ownsRow.lt HO2.out a.block (by
        obtain ⟨A', c', hv, -, -, -, -, hbl⟩ := own_slice HO2.out
        injection hv with hv1 hv2 hv3
        subst hv1 hv3
        exact (hbl a ha).2)).1
      have h2 := HS2.out _ hs
      omega⟩
    have hml : ms.length ≤ 512 := by omega
    have hcm3 : c3 ≤ 9223372036854775807 := by
      obtain ⟨A', c', hv, -, hcm, -⟩ := own_slice HO2.out
      injection hv with hv1 hv2 hv3
      subst hv3
      unfold maxLen at hcm
      omega
    clear hbw2
    go_wp2_with fail
    go_loopw [32] (fun i wr => ∃ j : Nat, i = .int .i64 j ∧ j ≤ ms.length ∧ Hid (∃ Sj, Spared w tx fr ms f2 A3 j wr Sj)) (fun i _ => ms.length - (intOf i).toNat)
    case atStart => exact ⟨0, rfl, Nat.zero_le _, Lib.hid ⟨S2, h0.out⟩⟩
    case round =>
      obtain ⟨j, rfl, hj, hI⟩ := hrel
      obtain ⟨Sj, hT⟩ := hI.out
      by_cases hlt : j < ms.length
      · have z1 : decide ((j : Int) < (ms.length : Int)) = true := decide_eq_true (by omega)
        obtain ⟨k1, k2, k3, k4⟩ := HMS.out j hlt
        obtain ⟨n, hn⟩ : ∃ n, n = ms[j] := ⟨_, rfl⟩
        have hnm : n ∈ ms := by rw [hn]; exact List.getElem_mem hlt
        rw [← hn] at k3 k4
        obtain ⟨b3, o3, rfl, hb3, hcell⟩ := ints_at hT.row j hlt
        rw [← hn] at hcell
        obtain ⟨-, -, -, -, r1⟩ := HKS.out wr hT.below
        have ltr : t < wr.heap.size := Nat.lt_of_lt_of_le lt hT.below.size
        have HCN := Lib.hid (HCT.out wr hT.below n hnm)
        have HAD := Lib.hid (fadd_ok hT.list k1 (by rw [k2]; omega) (tx, n) (HIN.out n hnm) k3)
        rw [← k4] at HAD
        have HT := Lib.hid hT
        clear hT hI h0 k1 k2 k3 k4 hn hnm
        go_wp2_with fail
        refine HCN.out.mono ?_
        rintro e w4 ⟨rfl, rfl⟩
        go_wp2_with fail
        refine HAD.out.mono ?_
        rintro e w5 ⟨rfl, S5, hl5, ho5, hf5⟩
        have HN := Lib.hid (show ∃ Sj, Spared w tx fr ms f2 (some ⟨b3, o3, none⟩) (j + 1) w5 Sj from
          ⟨S5, hl5, ((Off.of_below HT.out.below []).then ho5 (fun x hx => .inr (HT.out.new x hx))).below (Nat.le_refl _) (by simp), fun x hx => by
            rcases hf5 x hx with h | h
            · exact HT.out.new x h
            · have := HT.out.below.size; omega, HT.out.row.off ho5 HT.out.apart, fun a ha hs => by
            rcases hf5 _ hs with h | h
            · exact HT.out.apart a ha h
            · cases ha
              simp only at h
              omega⟩)
        clear hl5 ho5 hf5
        go_wp2_with fail
        go_roundw
        case rel => first | exact ⟨j + 1, by go_num, by omega, HN⟩ | ((repeat apply Exists.intro); exact ⟨⟨j + 1, by go_num, by omega, HN⟩, rfl⟩)
        case measure => simp [intOf]; omega
      · have z1 : decide ((j : Int) < (ms.length : Int)) = false := decide_eq_false (by omega)
        have hje : j = ms.length := by omega
        have HE := Lib.hid (show SparePost (Fr.addAll tx fr ms) w (.returned (.tuple #[.pointer (some ⟨f2, 0, none⟩), .int .i64 0])) wr from ⟨f2, Sj, rfl, by
          have := hT.list
          rw [hje, List.take_length] at this
          exact this, hT.below, hT.new⟩)
        clear hT hI h0
        go_wp2_with fail
        go_ret2
        exact HE.out
end Go.Proofs.YtjbcbnemdhbhbaaGreatDoor
