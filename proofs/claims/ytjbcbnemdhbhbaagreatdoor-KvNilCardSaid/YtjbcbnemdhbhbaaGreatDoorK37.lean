import Derived.Test.YtjbcbnemdhbhbaaGreatDoorK36
import Derived.Test.YtjbcbnemdhbhbaaGreatDoorK28
import Derived.Test.YtjbcbnemdhbhbaaGreatDoorK24
import Derived.Test.YtjbcbnemdhbhbaaGreatDoorK33
namespace Go.Proofs.YtjbcbnemdhbhbaaGreatDoor
open Go.RowKit
set_option maxRecDepth 100000
set_option linter.unusedVariables false
set_option linter.unusedSimpArgs false
def GetsV (L : List En) (key : ByteArray) (v : Value) : Prop :=
  (∃ e ∈ L, e.cell.key = key ∧ v = .tuple #[.string ⟨e.val.toArray⟩, .bool true, .int .i64 0])
  ∨ ((∀ e ∈ L, e.cell.key ≠ key) ∧ v = .tuple #[.string ⟨#[]⟩, .bool false, .int .i64 0])
set_option maxHeartbeats 16000000 in
theorem get_any {p : Store} (hp : Reads p) {w : World} {S : List Nat} {σ : Book} {k : Nat} (h : p.At w S σ k) (root : Nat) {L : List En} (hd : Tr.Deep σ root L) (hL : ∀ e ∈ L, Tr.EnOk σ e) (key : ByteArray) :
    Calls Tryz.prog 59 #[.iface p.T p.v, .int .i64 root, .string key] w (fun e w' => Below w.heap.size w w' ∧ ∃ v, e = .returned v ∧ GetsV L key v) := by
  have HF := Lib.hid (find_any hp h root hd key)
  have HV := Lib.hid fun (W : World) (hb : Below w.heap.size w W) (e : En) (he : e ∈ L) => value_ok hp (hp.below h hb) e (hL e he)
  clear hd h hp hL
  go_enter Tryz.func59, Tryz.ntmps59
  go_wp2_with fail
  refine HF.out.mono ?_
  rintro e w1 ⟨hb1, v, rfl, hv⟩
  have HB1 := Lib.hid hb1
  clear hb1
  rcases hv with ⟨e, he, hk, rfl⟩ | ⟨hno, rfl⟩
  · have HVE := Lib.hid (HV.out (w1.alloc (.cells #[.string e.cell.key, .string e.cell.val, .int .i64 e.cell.over, .int .i64 e.cell.size, .int .i64 e.cell.child] 170)) (HB1.out.alloc HB1.out.size _) e he)
    have HG := Lib.hid (show GetsV L key (.tuple #[.string ⟨e.val.toArray⟩, .bool true, .int .i64 0]) from .inl ⟨e, he, hk, rfl⟩)
    clear hk he
    obtain ⟨c, hc⟩ : ∃ c, c = e.cell := ⟨_, rfl⟩
    obtain ⟨vl, hvl⟩ : ∃ vl, vl = e.val := ⟨_, rfl⟩
    rw [← hc, ← hvl] at HVE
    rw [← hvl] at HG
    rw [← hc]
    clear hc hvl HV
    go_wp2_with fail
    refine HVE.out.mono ?_
    rintro x w2 ⟨rfl, hb2⟩
    have HB2 := Lib.hid ((HB1.out.alloc HB1.out.size _).trans (hb2.mono (HB1.out.alloc HB1.out.size _).size))
    clear hb2
    go_wp2_with fail
    go_ret3
    exact ⟨HB2.out, _, rfl, HG.out⟩
  · have HG := Lib.hid (show GetsV L key (.tuple #[.string ⟨#[]⟩, .bool false, .int .i64 0]) from .inr ⟨hno, rfl⟩)
    clear hno HV
    go_wp2_with fail
    go_ret3
    exact ⟨HB1.out.alloc HB1.out.size _, _, rfl, HG.out⟩
end Go.Proofs.YtjbcbnemdhbhbaaGreatDoor
namespace Go.Proofs.YtjbcbnemdhbhbaaGreatDoor
open Go.RowKit
set_option maxRecDepth 100000
set_option linter.unusedVariables false
set_option linter.unusedSimpArgs false
structure Kr where
  q : Nat
  g : Nat
  T : List Nat
  Sd : List Nat
  P : PgS
  D : DevS
  disk : Book
structure Kr.Ok (E : Kr) : Prop where
  on : E.D.off = false
  steps : E.D.steps ≤ 1000000000
  page : ∀ n p, E.disk n = some p → 1 ≤ n ∧ (n : Int) < E.P.m.l ∧ ∃ t : Int, E.D.Page n p.kind t p.body
def stillStore (E : Kr) : Store where
  T := 117
  v := .agg #[.pointer (some ⟨E.q, 0, none⟩)]
  At w S σ k := Pg w E.q E.T E.g E.P ∧ Dev w E.g E.Sd E.D ∧ RowAt w ∧ σ = E.disk ∧ S = E.q :: 0 :: (E.T ++ E.Sd) ∧ k = 0
  F := False
set_option maxHeartbeats 16000000 in
theorem sload_any {E : Kr} (hE : E.Ok) {w : World} (hp : Pg w E.q E.T E.g E.P) (hd : Dev w E.g E.Sd E.D) (hr : RowAt w) (n : Nat) (x : Pgg) (hx : E.disk n = some x) :
    Calls Tryz.prog 321 #[.agg #[.pointer (some ⟨E.q, 0, none⟩)], .int .i64 n] w (fun e w' => Below w.heap.size w w' ∧ ∃ a b : Int, e = .returned (.tuple #[.agg #[.int .i64 x.kind, .int .i64 a, .int .i64 b, .string x.body], .int .i64 0])) := by
  obtain ⟨h1, h2, t, hpg⟩ := hE.page n x hx
  have HP := Lib.hid fun (W : World) (hb : Below w.heap.size w W) => pread_any (hp.below hb) (hd.below hb) (hr.below hb) hE.steps hE.on n h1 h2 hpg
  clear hp hd hr hE hx h1 h2 hpg
  go_enter Tryz.func321, Tryz.ntmps321
  go_wp2_with fail
  refine (HP.out _ (((Below.refl _ w).alloc (Nat.le_refl _) _).alloc (by simp) _)).mono ?_
  rintro e w1 ⟨rfl, hb1⟩
  have hz1 : (w.alloc (.cells #[.pointer (some ⟨E.q, 0, none⟩)] 117)).heap.size = w.heap.size + 1 := by simp
  have hbk := bk_below (Bk.new (w.alloc (.cells #[.pointer (some ⟨E.q, 0, none⟩)] 117)) 126 #[.int .i64 0, .int .i64 0, .int .i64 0, .string ⟨#[]⟩]) hb1
  rw [hz1] at hbk
  have HB := Lib.hid ((((Below.refl _ w).alloc (Nat.le_refl _) (.cells #[.pointer (some ⟨E.q, 0, none⟩)] 117)).alloc (by simp) (.cells #[.int .i64 0, .int .i64 0, .int .i64 0, .string ⟨#[]⟩] 126)).trans (hb1.mono (by simp; omega)))
  obtain ⟨x0, x1, x2, x3⟩ := hbk.four
  have f0 := hbk.frozen 0
  have f1 := hbk.frozen 1
  have f2 := hbk.frozen 2
  have f3 := hbk.frozen 3
  have lp := hbk.lt
  clear hb1 hbk hz1
  go_wp2_with fail
  refine bodyPost_ret (v := .tuple #[.agg #[.int .i64 x.kind, .int .i64 n, .int .i64 t, .string x.body], .int .i64 0]) (by simp [results, Tryz.results321, go_sem, lp, x0, x1, x2, x3]) rfl ⟨?_, n, t, rfl⟩
  exact (((HB.out.setCell (p := ⟨w.heap.size + 1, 0, none⟩) (by simp) _).setCell (p := ⟨w.heap.size + 1, 1, none⟩) (by simp) _).setCell (p := ⟨w.heap.size + 1, 2, none⟩) (by simp) _).setCell (p := ⟨w.heap.size + 1, 3, none⟩) (by simp) _
theorem still_reads {E : Kr} (hE : E.Ok) : Reads (stillStore E) where
  off := by
    rintro w w' S U σ k ⟨h1, h2, h3, h4, rfl, h6⟩ ho hU
    exact ⟨h1.off ho (fun b hb => hU b (by simp [hb])), h2.off ho (fun b hb => hU b (by simp [hb])), h3.off ho (hU _ (by simp)), h4, rfl, h6⟩
  old := by
    rintro w S σ k ⟨h1, h2, h3, h4, rfl, h6⟩ b hb
    simp only [List.mem_cons, List.mem_append] at hb
    rcases hb with rfl | rfl | hb | hb
    · obtain ⟨_, _, hp⟩ := h1; exact hp.cells.lt
    · exact h3.lt
    · exact h1.old b hb
    · exact h2.old b hb
  less := by
    rintro w S σ k k' ⟨h1, h2, h3, h4, h5, h6⟩ hk
    exact ⟨h1, h2, h3, h4, h5, by omega⟩
  load := by
    refine ⟨321, .agg #[.pointer (some ⟨E.q, 0, none⟩)], fun W => by kernel_rfl, fun W => by kernel_rfl, fun args W => by kernel_rfl, ?_⟩
    rintro w S σ k no p ⟨h1, h2, h3, rfl, h5, h6⟩ hp
    exact sload_any hE h1 h2 h3 no p hp
end Go.Proofs.YtjbcbnemdhbhbaaGreatDoor
namespace Go.Proofs.YtjbcbnemdhbhbaaGreatDoor
open Go.RowKit
set_option maxRecDepth 100000
set_option linter.unusedVariables false
set_option linter.unusedSimpArgs false
def NameOk (e : En) : Prop := e.val.length = 4 ∧ 1 ≤ numAt ⟨e.val.toArray⟩ 0 4 ∧ numAt ⟨e.val.toArray⟩ 0 4 < 512
def RootIs (L : List En) (name : ByteArray) (r : Nat) : Prop :=
  (∃ e ∈ L, e.cell.key = name ∧ r = numAt ⟨e.val.toArray⟩ 0 4) ∨ ((∀ e ∈ L, e.cell.key ≠ name) ∧ r = 0)
set_option maxHeartbeats 16000000 in
theorem rootof_any {p : Store} (hp : Reads p) {w : World} {S : List Nat} {σ : Book} {k : Nat} (h : p.At w S σ k) (root : Nat) {L : List En} (hd : Tr.Deep σ root L) (hL : ∀ e ∈ L, Tr.EnOk σ e) (hN : ∀ e ∈ L, NameOk e) (name : ByteArray) (h1 : 1 ≤ name.size) (h2 : name.size ≤ 32) :
    Calls Tryz.prog 58 #[.iface p.T p.v, .int .i64 root, .string name] w (fun e w' => Below w.heap.size w w' ∧ ∃ r : Nat, e = .returned (.tuple #[.int .i64 r, .int .i64 0]) ∧ RootIs L name r) := by
  have HG := Lib.hid (get_any hp h root hd hL name)
  have hne : (name.toList == []) = false := by
    have : name.toList.length = name.size := by rw [ByteArray.toList_eq]; rfl
    cases hl : name.toList with
    | nil => rw [hl] at this; simp at this; omega
    | cons a t => rfl
  have hne2 : (name.toList == (⟨#[]⟩ : ByteArray).toList) = false := by
    have : (⟨#[]⟩ : ByteArray).toList = [] := by rw [ByteArray.toList_eq]
    rw [this]; exact hne
  have z1 : decide ((32 : Int) < (name.size : Int)) = false := decide_eq_false (by omega)
  have z2 : decide (32 < name.size) = false := decide_eq_false (by omega)
  clear hd h hp hL h1
  go_enter Tryz.func58, Tryz.ntmps58
  go_wp2_with fail
  refine HG.out.mono ?_
  rintro e w1 ⟨hb1, v, rfl, hv⟩
  have HB := Lib.hid hb1
  clear hb1 HG
  rcases hv with ⟨e, he, hk, rfl⟩ | ⟨hno, rfl⟩
  · obtain ⟨g1, g2, g3⟩ := hN e he
    have HR := Lib.hid (show RootIs L name (numAt ⟨e.val.toArray⟩ 0 4) from .inl ⟨e, he, hk, rfl⟩)
    obtain ⟨s, hs⟩ : ∃ s, s = (⟨e.val.toArray⟩ : ByteArray) := ⟨_, rfl⟩
    have hsz : s.size = 4 := by rw [hs]; show e.val.toArray.size = 4; simpa using g1
    rw [← hs] at HR g2 g3 ⊢
    have HT := Lib.hid fun (W : World) => take_ok s 0 4 W (by omega) (by omega) (by omega) (by omega)
    obtain ⟨r, hr⟩ : ∃ r, r = numAt s 0 4 := ⟨_, rfl⟩
    rw [← hr] at HR HT g2 g3
    have y1 : ((r : Int) == 0) = false := by simp; omega
    have y2 : ((s.size : Int) == 4) = true := by simp; omega
    have y3 := wrap_i64 r (by omega)
    clear hs hr he hk hN g1
    go_wp2_with fail
    refine (HT.out _).mono ?_
    rintro e w2 ⟨rfl, hb2⟩
    have HB2 := Lib.hid (HB.out.trans (hb2.mono HB.out.size))
    clear hb2
    go_wp2_with fail
    go_ret2
    exact ⟨HB2.out, r, rfl, HR.out⟩
  · have HR := Lib.hid (show RootIs L name 0 from .inr ⟨hno, rfl⟩)
    clear hno hN
    go_wp2_with fail
    go_ret2
    exact ⟨HB.out, 0, rfl, HR.out⟩
end Go.Proofs.YtjbcbnemdhbhbaaGreatDoor
namespace Go.Proofs.YtjbcbnemdhbhbaaGreatDoor
open Go.RowKit
set_option linter.unusedVariables false
set_option linter.unusedSimpArgs false
namespace Tr
theorem putE_in {key : ByteArray} {e : En} {l : List En} (hr : Rising l) (he : e.cell.key = key) (x : En) : x ∈ putE key e l ↔ x = e ∨ (x ∈ l ∧ x.cell.key ≠ key) := by
  obtain ⟨a, b, rfl, h1, h2⟩ := spot_split key l
  rw [putE_split a b key e h1 h2]
  obtain ⟨r1, r2, r3⟩ := rising_app hr
  have hg := rest_gt r2 h2
  have hne : ∀ {c d : ByteArray}, Nd.lt c d = true → c ≠ d := fun h e => by subst e; have := Nd.lt_asymm h; rw [h] at this; cases this
  have hb : ∀ y, y ∈ rest key b ↔ y ∈ b ∧ y.cell.key ≠ key := fun y => by
    refine ⟨fun h => ⟨rest_mem key b y h, fun e => hne (hg y h) e.symm⟩, fun ⟨h, hk⟩ => ?_⟩
    cases b with
    | nil => cases h
    | cons z t =>
      simp only [rest]
      split
      · next hz =>
        rcases List.mem_cons.1 h with rfl | h
        · exact absurd (Nd.str_ext (by simpa using hz)) hk
        · exact h
      · exact h
  rw [List.mem_append, List.mem_append, List.mem_singleton, List.mem_append, hb]
  constructor
  · rintro (h | h | h)
    · exact .inr ⟨.inl h, hne (h1 x h)⟩
    · exact .inl h
    · exact .inr ⟨.inr h.1, h.2⟩
  · rintro (h | ⟨h | h, hk⟩)
    · exact .inr (.inl h)
    · exact .inl h
    · exact .inr (.inr ⟨h, hk⟩)
theorem Stored.rising {σ : Book} {d no : Nat} {P : List Nat} {L : List En} (h : Stored σ d no P L) : Rising L := by
  obtain ⟨cs', P', -, -, -, -, g, -⟩ := h
  exact Part.rising g
theorem Root.ents {σ : Book} {root : Nat} {P : List Nat} {L : List En} (h : Root σ root P L) : ∀ e ∈ L, EnOk σ e := by
  rcases h with ⟨-, -, rfl⟩ | ⟨d, h⟩
  · simp
  · exact h.ents
theorem Root.rising {σ : Book} {root : Nat} {P : List Nat} {L : List En} (h : Root σ root P L) : Rising L := by
  rcases h with ⟨-, -, rfl⟩ | ⟨d, h⟩
  · exact List.Pairwise.nil
  · exact h.rising
theorem Root.mem {σ : Book} {root : Nat} {P : List Nat} {L : List En} (h : Root σ root P L) : ∀ n ∈ P, 1 ≤ n ∧ n < 512 ∧ σ n ≠ none := by
  rcases h with ⟨-, rfl, -⟩ | ⟨d, h⟩
  · simp
  · exact h.mem
theorem Root.congr {σ σ' : Book} {root : Nat} {P : List Nat} {L : List En} (h : Root σ root P L) (hk : ∀ n ∈ P, σ' n = σ n) : Root σ' root P L := by
  rcases h with ⟨rfl, rfl, rfl⟩ | ⟨d, h⟩
  · exact .inl ⟨rfl, rfl, rfl⟩
  · exact .inr ⟨d, h.congr hk⟩
theorem Root.small {σ : Book} {root : Nat} {P : List Nat} {L : List En} (h : Root σ root P L) : root < 512 := by
  rcases h with ⟨rfl, -, -⟩ | ⟨d, h⟩
  · omega
  · obtain ⟨_, _, _, _, h, _⟩ := h; exact h
theorem Root.zero {σ : Book} {root : Nat} {P : List Nat} {L : List En} (h : Root σ root P L) : root = 0 ↔ L = [] := by
  rcases h with ⟨rfl, rfl, rfl⟩ | ⟨d, h⟩
  · simp
  · obtain ⟨_, _, _, h1, h, _, _, _, h2, _⟩ := h
    exact ⟨fun e => by omega, fun e => absurd e h2⟩
end Tr
structure Tn where
  root : Nat
  P : List Nat
  L : List En
def Tn.Is (σ : Book) (t : Tn) : Prop := Tr.Root σ t.root t.P t.L
def Tn.zero : Tn := ⟨0, [], []⟩
structure Forest where
  main : Tn
  R : ByteArray → Option Nat
  tr : ByteArray → Tn
  NS : List ByteArray
def IsName (n : ByteArray) : Prop := 1 ≤ n.size ∧ n.size ≤ 32
namespace Forest
def flat (tr : ByteArray → Tn) (l : List ByteArray) : List Nat := l.flatMap fun n => (tr n).P
def pages (F : Forest) : List Nat := F.main.P ++ flat F.tr F.NS
structure Ok (F : Forest) (σ : Book) : Prop where
  main : F.main.Is σ
  each : ∀ n, (F.tr n).Is σ
  out : ∀ n, n ∉ F.NS → F.tr n = Tn.zero
  nodup : F.pages.Nodup
  full : ∀ n, σ n ≠ none → n ∈ F.pages
  names : ∀ e ∈ F.main.L, NameOk e
  law : ∀ n r, F.R n = some r → r = (F.tr n).root ∧ n ∈ F.NS
  law0 : ∀ n, F.R n = none → RootIs F.main.L n (F.tr n).root
  nd : F.NS.Nodup
  valid : ∀ n ∈ F.NS, IsName n
theorem flat_upd {tr : ByteArray → Tn} {n : ByteArray} {t : Tn} : ∀ {l : List ByteArray}, n ∉ l → flat (fun m => if m = n then t else tr m) l = flat tr l
  | [], _ => rfl
  | a :: l, h => by
    rw [List.mem_cons, not_or] at h
    unfold flat
    rw [List.flatMap_cons, List.flatMap_cons]
    have e1 : (if a = n then t else tr a) = tr a := if_neg (fun e => h.1 e.symm)
    show (if a = n then t else tr a).P ++ flat (fun m => if m = n then t else tr m) l = (tr a).P ++ flat tr l
    rw [e1, flat_upd h.2]
def known (l : List ByteArray) (n : ByteArray) : Bool := l.any fun m => decide (m = n)
theorem known_iff {l : List ByteArray} {n : ByteArray} : known l n = true ↔ n ∈ l := by
  unfold known
  rw [List.any_eq_true]
  constructor
  · rintro ⟨x, hx, h⟩
    have := of_decide_eq_true h
    subst this
    exact hx
  · exact fun h => ⟨n, h, by simp⟩
theorem perm_swap (a b c : List Nat) : (a ++ (b ++ c)).Perm (b ++ (a ++ c)) := by
  rw [← List.append_assoc, ← List.append_assoc]
  exact List.perm_append_comm.append_right _
def withName (F : Forest) (n : ByteArray) : Forest := if known F.NS n = true then F else { F with NS := n :: F.NS }
theorem with_tr (F : Forest) (n : ByteArray) : (F.withName n).tr = F.tr ∧ (F.withName n).R = F.R ∧ (F.withName n).main = F.main ∧ n ∈ (F.withName n).NS := by
  unfold withName
  split
  · next h => exact ⟨rfl, rfl, rfl, known_iff.1 h⟩
  · exact ⟨rfl, rfl, rfl, by simp⟩
theorem Ok.with {F : Forest} {σ : Book} (h : F.Ok σ) {n : ByteArray} (hn : IsName n) : (F.withName n).Ok σ := by
  unfold withName
  split
  · exact h
  · next hm0 =>
    have hm : n ∉ F.NS := fun h => hm0 (known_iff.2 h)
    have hp : ({ F with NS := n :: F.NS } : Forest).pages = F.pages := by
      unfold pages flat
      rw [List.flatMap_cons, h.out n hm]
      rfl
    refine ⟨h.main, h.each, fun m hm2 => h.out m (fun e => hm2 (by simp [e])), by rw [hp]; exact h.nodup, fun m hs => by rw [hp]; exact h.full m hs, h.names, fun m r hr => ⟨(h.law m r hr).1, by simp [(h.law m r hr).2]⟩, h.law0, List.nodup_cons.2 ⟨hm, h.nd⟩, fun m hm2 => ?_⟩
    rcases List.mem_cons.1 hm2 with rfl | hm2
    · exact hn
    · exact h.valid m hm2
theorem Ok.split {F : Forest} {σ : Book} (h : F.Ok σ) {n : ByteArray} (hn : n ∈ F.NS) : ∃ a b, F.NS = a ++ (n :: b) ∧ n ∉ a ∧ n ∉ b ∧ F.pages.Perm ((F.tr n).P ++ (F.main.P ++ (flat F.tr a ++ flat F.tr b))) := by
  obtain ⟨a, b, hab⟩ := List.append_of_mem hn
  have hnd := h.nd
  rw [hab] at hnd
  have hp := (List.perm_middle (a := n) (l₁ := a) (l₂ := b)).nodup_iff.1 hnd
  have h1 := (List.nodup_cons.1 hp).1
  rw [List.mem_append, not_or] at h1
  refine ⟨a, b, hab, h1.1, h1.2, ?_⟩
  unfold pages
  rw [hab]
  unfold flat
  rw [Tr.flatMap_app, List.flatMap_cons]
  have e1 : (F.main.P ++ (a.flatMap (fun n => (F.tr n).P) ++ ((F.tr n).P ++ b.flatMap (fun n => (F.tr n).P)))).Perm (F.main.P ++ ((F.tr n).P ++ (a.flatMap (fun n => (F.tr n).P) ++ b.flatMap (fun n => (F.tr n).P)))) := by
    exact List.Perm.append_left _ (perm_swap _ _ _)
  exact e1.trans (perm_swap _ _ _)
def put (F : Forest) (n : ByteArray) (t : Tn) : Forest := { F.withName n with tr := fun m => if m = n then t else F.tr m, R := fun m => if m = n then some t.root else F.R m }
theorem Ok.put {F : Forest} {σ σ' : Book} (h0 : F.Ok σ) {n : ByteArray} (hn : IsName n) {t : Tn} (ht : t.Is σ') (hm : Tr.Moved σ (F.tr n).P σ' t.P) : (F.put n t).Ok σ' := by
  have h := h0.with hn
  obtain ⟨e1, e2, e3, e4⟩ := F.with_tr n
  unfold Forest.put
  obtain ⟨G, hG⟩ : ∃ G, G = F.withName n := ⟨_, rfl⟩
  rw [← hG] at h e1 e2 e3 e4 ⊢
  rw [← e1] at hm
  rw [← e1, ← e2]
  obtain ⟨a, b, hab, ha, hb, hperm⟩ := h.split e4
  have hnd := hperm.nodup_iff.1 h.nodup
  obtain ⟨n1, n2, n3⟩ := List.nodup_append.1 hnd
  have hthere : ∀ m ∈ G.main.P ++ (flat G.tr a ++ flat G.tr b), σ m ≠ none := fun m hmm => by
    rcases List.mem_append.1 hmm with hmm | hmm
    · exact (h.main.mem m hmm).2.2
    · rcases List.mem_append.1 hmm with hmm | hmm
      all_goals
        obtain ⟨x, hx, hmm⟩ := List.mem_flatMap.1 hmm
        exact ((h.each x).mem m hmm).2.2
  have hap : ∀ m ∈ G.main.P ++ (flat G.tr a ++ flat G.tr b), m ∉ (G.tr n).P := fun m hmm hq => n3 m hq m hmm rfl
  have hfr := hm.frame hthere n2 hap
  have hsame := hm.same hthere hap
  have hpp : (Forest.pages { G with tr := fun m => if m = n then t else G.tr m, R := fun m => if m = n then some t.root else G.R m }).Perm (t.P ++ (G.main.P ++ (flat G.tr a ++ flat G.tr b))) := by
    unfold Forest.pages
    simp only
    rw [hab]
    have e : flat (fun m => if m = n then t else G.tr m) (a ++ n :: b) = flat G.tr a ++ (t.P ++ flat G.tr b) := by
      rw [← flat_upd (t := t) ha, ← flat_upd (t := t) hb]
      unfold flat
      rw [Tr.flatMap_app, List.flatMap_cons]
      have e9 : (if n = n then t else G.tr n) = t := if_pos rfl
      show _ ++ ((if n = n then t else G.tr n).P ++ _) = _
      rw [e9]
    rw [e]
    have e1 : (G.main.P ++ (flat G.tr a ++ (t.P ++ flat G.tr b))).Perm (G.main.P ++ (t.P ++ (flat G.tr a ++ flat G.tr b))) := by
      exact List.Perm.append_left _ (perm_swap _ _ _)
    exact e1.trans (perm_swap _ _ _)
  refine ⟨h.main.congr fun m hmm => hsame m (by simp [hmm]), fun m => ?_, fun m hmm => ?_, hpp.nodup_iff.2 hfr.nodup, fun m hs => ?_, h.names, fun m r hr => ?_, fun m hr => ?_, h.nd, h.valid⟩
  · by_cases e : m = n
    · simp only [e, if_true]; exact ht
    · simp only [if_neg e]
      refine (h.each m).congr fun x hx => hsame x ?_
      have hmn : m ∈ G.NS := by
        by_cases hc : m ∈ G.NS
        · exact hc
        · rw [h.out m hc] at hx; cases hx
      rw [hab, List.mem_append, List.mem_cons] at hmn
      simp only [List.mem_append]
      rcases hmn with hmn | hmn | hmn
      · exact .inr (.inl (List.mem_flatMap.2 ⟨m, hmn, hx⟩))
      · exact absurd hmn e
      · exact .inr (.inr (List.mem_flatMap.2 ⟨m, hmn, hx⟩))
  · have e : m ≠ n := fun e => hmm (by rw [e]; exact e4)
    simp only [if_neg e]
    exact h.out m hmm
  · rw [hpp.mem_iff]
    rcases hm.dom m hs with hd | ⟨hd1, hd2⟩
    · simp [hd]
    · have := h.full m hd2
      rw [hperm.mem_iff] at this
      rcases List.mem_append.1 this with h9 | h9
      · exact absurd h9 hd1
      · exact List.mem_append.2 (.inr h9)
  · by_cases e : m = n
    · simp only [e, if_true] at hr ⊢
      exact ⟨(Option.some.inj hr).symm, e4⟩
    · simp only [if_neg e] at hr ⊢
      exact h.law m r hr
  · by_cases e : m = n
    · simp only [e, if_true] at hr; cases hr
    · simp only [if_neg e] at hr ⊢
      exact h.law0 m hr
theorem Ok.root {F : Forest} {σ : Book} (h : F.Ok σ) (n : ByteArray) : (∃ r, F.R n = some r ∧ r = (F.tr n).root) ∨ (F.R n = none ∧ RootIs F.main.L n (F.tr n).root) := by
  cases hr : F.R n with
  | none => exact .inr ⟨rfl, h.law0 n hr⟩
  | some r => exact .inl ⟨r, rfl, (h.law n r hr).1⟩
end Forest
theorem RootIs.fun_ {L : List En} {name : ByteArray} {r r' : Nat} (hr : Tr.Rising L) (h : RootIs L name r) (h' : RootIs L name r') : r = r' := by
  have key : ∀ e ∈ L, ∀ e' ∈ L, e.cell.key = e'.cell.key → e = e' := fun e he e' he' hk => by
    obtain ⟨i, hi, rfl⟩ := List.mem_iff_getElem.1 he
    obtain ⟨j, hj, rfl⟩ := List.mem_iff_getElem.1 he'
    have hp := List.pairwise_iff_getElem.1 hr
    rcases Nat.lt_trichotomy i j with h | h | h
    · have := hp i j hi hj h
      rw [hk] at this
      have h2 := Nd.lt_asymm this
      rw [this] at h2; cases h2
    · subst h; rfl
    · have := hp j i hj hi h
      rw [hk] at this
      have h2 := Nd.lt_asymm this
      rw [this] at h2; cases h2
  rcases h with ⟨e, he, hk, rfl⟩ | ⟨h, rfl⟩
  · rcases h' with ⟨e', he', hk', rfl⟩ | ⟨h', rfl⟩
    · rw [key e he e' he' (hk.trans hk'.symm)]
    · exact absurd hk (h' e he)
  · rcases h' with ⟨e', he', hk', rfl⟩ | ⟨h', rfl⟩
    · exact absurd hk' (h e' he')
    · rfl
theorem RootIs.put {L : List En} (hr : Tr.Rising L) {key : ByteArray} {e : En} (he : e.cell.key = key) (m : ByteArray) (r : Nat) : RootIs (Tr.putE key e L) m r ↔ if m = key then r = numAt ⟨e.val.toArray⟩ 0 4 else RootIs L m r := by
  have hm := Tr.putE_in hr he
  split
  · next h =>
    subst h
    constructor
    · rintro (⟨x, hx, hk, rfl⟩ | ⟨h, -⟩)
      · rcases (hm x).1 hx with rfl | ⟨-, h⟩
        · rfl
        · exact absurd hk h
      · exact absurd he (h e ((hm e).2 (.inl rfl)))
    · rintro rfl
      exact .inl ⟨e, (hm e).2 (.inl rfl), he, rfl⟩
  · next h =>
    constructor
    · rintro (⟨x, hx, hk, rfl⟩ | ⟨h2, rfl⟩)
      · rcases (hm x).1 hx with rfl | ⟨hx, -⟩
        · exact absurd (hk.symm.trans he) h
        · exact .inl ⟨x, hx, hk, rfl⟩
      · refine .inr ⟨fun x hx hk => h2 x ((hm x).2 (.inr ⟨hx, fun e => h (hk.symm.trans e)⟩)) hk, rfl⟩
    · rintro (⟨x, hx, hk, rfl⟩ | ⟨h2, rfl⟩)
      · exact .inl ⟨x, (hm x).2 (.inr ⟨hx, fun e => h (hk.symm.trans e)⟩), hk, rfl⟩
      · refine .inr ⟨fun x hx hk => ?_, rfl⟩
        rcases (hm x).1 hx with rfl | ⟨hx, -⟩
        · exact h (hk.symm.trans he)
        · exact h2 x hx hk
namespace Forest
def tell (F : Forest) (t : Tn) (n : ByteArray) : Forest := { F with main := t, R := fun m => if m = n then none else F.R m }
theorem Ok.tell {F : Forest} {σ σ' : Book} (h : F.Ok σ) {t : Tn} (ht : t.Is σ') (hm : Tr.Moved σ F.main.P σ' t.P) (hN : ∀ e ∈ t.L, NameOk e) (n : ByteArray) (hn : RootIs t.L n (F.tr n).root) (hrest : ∀ m r, m ≠ n → (RootIs F.main.L m r → RootIs t.L m r)) : (F.tell t n).Ok σ' := by
  unfold Forest.tell
  have hnd := h.nodup
  unfold Forest.pages at hnd
  obtain ⟨n1, n2, n3⟩ := List.nodup_append.1 hnd
  have hthere : ∀ m ∈ flat F.tr F.NS, σ m ≠ none := fun m hmm => by
    obtain ⟨x, hx, hmm⟩ := List.mem_flatMap.1 hmm
    exact ((h.each x).mem m hmm).2.2
  have hap : ∀ m ∈ flat F.tr F.NS, m ∉ F.main.P := fun m hmm hq => n3 m hq m hmm rfl
  have hfr := hm.frame hthere n2 hap
  have hsame := hm.same hthere hap
  refine ⟨ht, fun m => (h.each m).congr fun x hx => hsame x ?_, h.out, hfr.nodup, fun m hs => ?_, hN, fun m r hr => ?_, fun m hr => ?_, h.nd, h.valid⟩
  · have hmn : m ∈ F.NS := by
      by_cases hc : m ∈ F.NS
      · exact hc
      · have e := h.out m hc
        have hx2 : x ∈ (F.tr m).P := hx
        rw [e] at hx2; cases hx2
    exact List.mem_flatMap.2 ⟨m, hmn, hx⟩
  · show m ∈ t.P ++ flat F.tr F.NS
    rcases hm.dom m hs with hd | ⟨hd1, hd2⟩
    · simp [hd]
    · rcases List.mem_append.1 (h.full m hd2) with h9 | h9
      · exact absurd h9 hd1
      · exact List.mem_append.2 (.inr h9)
  · have hr : (if m = n then none else F.R m) = some r := hr
    by_cases e : m = n
    · rw [if_pos e] at hr; cases hr
    · rw [if_neg e] at hr
      exact h.law m r hr
  · have hr : (if m = n then none else F.R m) = none := hr
    by_cases e : m = n
    · subst e; exact hn
    · rw [if_neg e] at hr
      exact hrest m _ e (h.law0 m hr)
end Forest
end Go.Proofs.YtjbcbnemdhbhbaaGreatDoor
namespace Go.Proofs.YtjbcbnemdhbhbaaGreatDoor
open Go.RowKit
set_option linter.unusedVariables false
set_option linter.unusedSimpArgs false
namespace Tr
def need (n : Nat) : Nat := 2 * Nat.log2 n + 4
theorem kids_len {Q : List Ce → List Nat → List En → Prop} {m : Nat} {σ : Book} {leaf : Bool} : ∀ (ks : List Kd), (∀ k ∈ ks, m ≤ k.L.length) → m * ks.length ≤ (ks.flatMap (·.L)).length
  | [], _ => by simp
  | k :: ks, h => by
    have h1 := h k (by simp)
    have h2 := kids_len (Q := Q) (σ := σ) (leaf := leaf) ks (fun x hx => h x (by simp [hx]))
    rw [List.flatMap_cons, List.length_append, List.length_cons, Nat.mul_succ]
    omega
theorem Stored.many {σ : Book} : ∀ {d no : Nat} {P : List Nat} {L : List En}, Stored σ d no P L → 2 ^ d ≤ L.length
  | 0, no, P, L, h => by
    obtain ⟨cs, P', -, -, -, -, -, -, h, -⟩ := h
    cases L with
    | nil => exact absurd rfl h
    | cons a t => simp
  | d + 1, no, P, L, h => by
    obtain ⟨cs, P', -, -, -, -, ⟨ks, h1, h2, h3, h4, h5, h6⟩, -, -, h7⟩ := h
    have hk : ∀ k ∈ ks, 2 ^ d ≤ k.L.length := fun k hk => Stored.many (h6 k hk).2
    have h8 := h7 rfl
    rw [h1, List.length_map] at h8
    have h9 := kids_len (Q := fun _ _ _ => True) (σ := σ) (leaf := true) ks hk
    rw [h3, Nat.pow_succ]
    exact Nat.le_trans (Nat.mul_le_mul_left _ h8) h9
theorem Root.needs {σ : Book} {root : Nat} {P : List Nat} {L : List En} (h : Root σ root P L) {n : Nat} (hn : L.length ≤ n) : RootC σ (need n) root P L := by
  rcases h with ⟨h1, h2, h3⟩ | ⟨d, h⟩
  · exact .inl ⟨h1, h2, h3, by unfold need; omega⟩
  · refine .inr ⟨d, h, ?_⟩
    have h1 := Stored.many h
    have h2 : n ≠ 0 := fun e => by
      have : 0 < 2 ^ d := Nat.two_pow_pos d
      omega
    have h3 := (Nat.le_log2 (n := n) (k := d) h2).2 (Nat.le_trans h1 hn)
    unfold need
    omega
end Tr
theorem len_sub {α : Type} [DecidableEq α] : ∀ (l m : List α), l.Nodup → (∀ x ∈ l, x ∈ m) → l.length ≤ m.length
  | [], m, _, _ => Nat.zero_le _
  | a :: l, m, hn, h => by
    obtain ⟨h1, h2⟩ := List.nodup_cons.1 hn
    have ha := h a (by simp)
    have h3 := len_sub l (m.erase a) h2 (fun x hx => (List.mem_erase_of_ne (fun e => h1 (by rw [← e]; exact hx))).2 (h x (by simp [hx])))
    rw [List.length_erase_of_mem ha] at h3
    have := List.length_pos_of_mem ha
    rw [List.length_cons]
    omega
end Go.Proofs.YtjbcbnemdhbhbaaGreatDoor
