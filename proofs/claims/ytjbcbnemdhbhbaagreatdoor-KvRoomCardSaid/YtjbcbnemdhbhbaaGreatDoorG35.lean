import Derived.Test.YtjbcbnemdhbhbaaGreatDoorG27
import Derived.Test.YtjbcbnemdhbhbaaGreatDoorG30
import Derived.Test.YtjbcbnemdhbhbaaGreatDoorG20
import Derived.Test.YtjbcbnemdhbhbaaGreatDoorG32
import Derived.Test.YtjbcbnemdhbhbaaGreatDoorG25
import Derived.Test.YtjbcbnemdhbhbaaGreatDoorG33
import Derived.Test.YtjbcbnemdhbhbaaGreatDoorG34
namespace Go.Proofs.YtjbcbnemdhbhbaaGreatDoor
open Go.RowKit
set_option maxRecDepth 100000
set_option linter.unusedVariables false
set_option linter.unusedSimpArgs false
def GetsV (L : List En) (key : ByteArray) (v : Value) : Prop :=
 (∃ e ∈ L, e.cell.key = key ∧ v = .tuple #[.string ⟨e.val.toArray⟩, .bool true, .int .i64 0])
 ∨ ((∀ e ∈ L, e.cell.key ≠ key) ∧ v = .tuple #[.string ⟨#[]⟩, .bool false, .int .i64 0])
set_option maxHeartbeats 16000000 in
theorem get_any {p : Store} (hp : Reads p) {w : World} {S : List Nat} {σ : Book} {k : Nat} (h : p.At w S σ k) (root : Nat) {L : List En} (hd : Tr.Deep σ root L) (hL : ∀ e ∈ L, Tr.EnOk σ e) (key : ByteArray) :
   Calls Tryz.prog 59 #[.iface p.T p.v, .int .i64 root, .string key] w (fun e w' => Below w.heap.size w w' ∧ ∃ v, e = .returned v ∧ GetsV L key v) := by
 have HF := Lib.hid (find_any hp h root hd key)
 have HV := Lib.hid fun (W : World) (hb : Below w.heap.size w W) (e : En) (he : e ∈ L) => value_ok hp (hp.below h hb) e (hL e he)
 clear hd h hp hL
 go_enter Tryz.func59, Tryz.ntmps59
 go_wp2_with fail
 refine HF.out.mono ?_
 rintro e w1 ⟨hb1, v, rfl, hv⟩
 have HB1 := Lib.hid hb1
 clear hb1
 rcases hv with ⟨e, he, hk, rfl⟩ | ⟨hno, rfl⟩
 · have HVE := Lib.hid (HV.out (w1.alloc (.cells #[.string e.cell.key, .string e.cell.val, .int .i64 e.cell.over, .int .i64 e.cell.size, .int .i64 e.cell.child] 170)) (HB1.out.alloc HB1.out.size _) e he)
   have HG := Lib.hid (show GetsV L key (.tuple #[.string ⟨e.val.toArray⟩, .bool true, .int .i64 0]) from .inl ⟨e, he, hk, rfl⟩)
   clear hk he
   obtain ⟨c, hc⟩ : ∃ c, c = e.cell := ⟨_, rfl⟩
   obtain ⟨vl, hvl⟩ : ∃ vl, vl = e.val := ⟨_, rfl⟩
   rw [← hc, ← hvl] at HVE
   rw [← hvl] at HG
   rw [← hc]
   clear hc hvl HV
   go_wp2_with fail
   refine HVE.out.mono ?_
   rintro x w2 ⟨rfl, hb2⟩
   have HB2 := Lib.hid ((HB1.out.alloc HB1.out.size _).trans (hb2.mono (HB1.out.alloc HB1.out.size _).size))
   clear hb2
   go_wp2_with fail
   go_ret3
   exact ⟨HB2.out, _, rfl, HG.out⟩
 · have HG := Lib.hid (show GetsV L key (.tuple #[.string ⟨#[]⟩, .bool false, .int .i64 0]) from .inr ⟨hno, rfl⟩)
   clear hno HV
   go_wp2_with fail
   go_ret3
   exact ⟨HB1.out.alloc HB1.out.size _, _, rfl, HG.out⟩
structure Kr where
 q : Nat
 g : Nat
 T : List Nat
 Sd : List Nat
 P : PgS
 D : DevS
 disk : Book
structure Kr.Ok (E : Kr) : Prop where
 on : E.D.off = false
 steps : E.D.steps ≤ 1000000000
 page : ∀ n p, E.disk n = some p → 1 ≤ n ∧ (n : Int) < E.P.m.l ∧ ∃ t : Int, E.D.Page n p.kind t p.body
def stillStore (E : Kr) : Store where
 T := 117
 v := .agg #[.pointer (some ⟨E.q, 0, none⟩)]
 At w S σ k := Pg w E.q E.T E.g E.P ∧ Dev w E.g E.Sd E.D ∧ RowAt w ∧ σ = E.disk ∧ S = E.q :: 0 :: (E.T ++ E.Sd) ∧ k = 0
 F := False
set_option maxHeartbeats 16000000 in
theorem sload_any {E : Kr} (hE : E.Ok) {w : World} (hp : Pg w E.q E.T E.g E.P) (hd : Dev w E.g E.Sd E.D) (hr : RowAt w) (n : Nat) (x : Pgg) (hx : E.disk n = some x) :
   Calls Tryz.prog 321 #[.agg #[.pointer (some ⟨E.q, 0, none⟩)], .int .i64 n] w (fun e w' => Below w.heap.size w w' ∧ ∃ a b : Int, e = .returned (.tuple #[.agg #[.int .i64 x.kind, .int .i64 a, .int .i64 b, .string x.body], .int .i64 0])) := by
 obtain ⟨h1, h2, t, hpg⟩ := hE.page n x hx
 have HP := Lib.hid fun (W : World) (hb : Below w.heap.size w W) => pread_any (hp.below hb) (hd.below hb) (hr.below hb) hE.steps hE.on n h1 h2 hpg
 clear hp hd hr hE hx h1 h2 hpg
 go_enter Tryz.func321, Tryz.ntmps321
 go_wp2_with fail
 refine (HP.out _ (((Below.refl _ w).alloc (Nat.le_refl _) _).alloc (by simp) _)).mono ?_
 rintro e w1 ⟨rfl, hb1⟩
 have hz1 : (w.alloc (.cells #[.pointer (some ⟨E.q, 0, none⟩)] 117)).heap.size = w.heap.size + 1 := by simp
 have hbk := bk_below (Bk.new (w.alloc (.cells #[.pointer (some ⟨E.q, 0, none⟩)] 117)) 126 #[.int .i64 0, .int .i64 0, .int .i64 0, .string ⟨#[]⟩]) hb1
 rw [hz1] at hbk
 have HB := Lib.hid ((((Below.refl _ w).alloc (Nat.le_refl _) (.cells #[.pointer (some ⟨E.q, 0, none⟩)] 117)).alloc (by simp) (.cells #[.int .i64 0, .int .i64 0, .int .i64 0, .string ⟨#[]⟩] 126)).trans (hb1.mono (by simp; omega)))
 obtain ⟨x0, x1, x2, x3⟩ := hbk.four
 have f0 := hbk.frozen 0
 have f1 := hbk.frozen 1
 have f2 := hbk.frozen 2
 have f3 := hbk.frozen 3
 have lp := hbk.lt
 clear hb1 hbk hz1
 go_wp2_with fail
 refine bodyPost_ret (v := .tuple #[.agg #[.int .i64 x.kind, .int .i64 n, .int .i64 t, .string x.body], .int .i64 0]) (by simp [results, Tryz.results321, go_sem, lp, x0, x1, x2, x3]) rfl ⟨?_, n, t, rfl⟩
 exact (((HB.out.setCell (p := ⟨w.heap.size + 1, 0, none⟩) (by simp) _).setCell (p := ⟨w.heap.size + 1, 1, none⟩) (by simp) _).setCell (p := ⟨w.heap.size + 1, 2, none⟩) (by simp) _).setCell (p := ⟨w.heap.size + 1, 3, none⟩) (by simp) _
theorem still_reads {E : Kr} (hE : E.Ok) : Reads (stillStore E) where
 off := by
   rintro w w' S U σ k ⟨h1, h2, h3, h4, rfl, h6⟩ ho hU
   exact ⟨h1.off ho (fun b hb => hU b (by simp [hb])), h2.off ho (fun b hb => hU b (by simp [hb])), h3.off ho (hU _ (by simp)), h4, rfl, h6⟩
 old := by
   rintro w S σ k ⟨h1, h2, h3, h4, rfl, h6⟩ b hb
   simp only [List.mem_cons, List.mem_append] at hb
   rcases hb with rfl | rfl | hb | hb
   · obtain ⟨_, _, hp⟩ := h1; exact hp.cells.lt
   · exact h3.lt
   · exact h1.old b hb
   · exact h2.old b hb
 less := by
   rintro w S σ k k' ⟨h1, h2, h3, h4, h5, h6⟩ hk
   exact ⟨h1, h2, h3, h4, h5, by omega⟩
 load := by
   refine ⟨321, .agg #[.pointer (some ⟨E.q, 0, none⟩)], fun W => by kernel_rfl, fun W => by kernel_rfl, fun args W => by kernel_rfl, ?_⟩
   rintro w S σ k no p ⟨h1, h2, h3, rfl, h5, h6⟩ hp
   exact sload_any hE h1 h2 h3 no p hp
def NameOk (e : En) : Prop := e.val.length = 4 ∧ 1 ≤ numAt ⟨e.val.toArray⟩ 0 4 ∧ numAt ⟨e.val.toArray⟩ 0 4 < 512
def RootIs (L : List En) (name : ByteArray) (r : Nat) : Prop :=
 (∃ e ∈ L, e.cell.key = name ∧ r = numAt ⟨e.val.toArray⟩ 0 4) ∨ ((∀ e ∈ L, e.cell.key ≠ name) ∧ r = 0)
set_option maxHeartbeats 16000000 in
theorem rootof_any {p : Store} (hp : Reads p) {w : World} {S : List Nat} {σ : Book} {k : Nat} (h : p.At w S σ k) (root : Nat) {L : List En} (hd : Tr.Deep σ root L) (hL : ∀ e ∈ L, Tr.EnOk σ e) (hN : ∀ e ∈ L, NameOk e) (name : ByteArray) (h1 : 1 ≤ name.size) (h2 : name.size ≤ 32) :
   Calls Tryz.prog 58 #[.iface p.T p.v, .int .i64 root, .string name] w (fun e w' => Below w.heap.size w w' ∧ ∃ r : Nat, e = .returned (.tuple #[.int .i64 r, .int .i64 0]) ∧ RootIs L name r) := by
 have HG := Lib.hid (get_any hp h root hd hL name)
 have hne : (name.toList == []) = false := by
   have : name.toList.length = name.size := by rw [ByteArray.toList_eq]; rfl
   cases hl : name.toList with
   | nil => rw [hl] at this; simp at this; omega
   | cons a t => rfl
 have hne2 : (name.toList == (⟨#[]⟩ : ByteArray).toList) = false := by
   have : (⟨#[]⟩ : ByteArray).toList = [] := by rw [ByteArray.toList_eq]
   rw [this]; exact hne
 have z1 : decide ((32 : Int) < (name.size : Int)) = false := decide_eq_false (by omega)
 have z2 : decide (32 < name.size) = false := decide_eq_false (by omega)
 clear hd h hp hL h1
 go_enter Tryz.func58, Tryz.ntmps58
 go_wp2_with fail
 refine HG.out.mono ?_
 rintro e w1 ⟨hb1, v, rfl, hv⟩
 have HB := Lib.hid hb1
 clear hb1 HG
 rcases hv with ⟨e, he, hk, rfl⟩ | ⟨hno, rfl⟩
 · obtain ⟨g1, g2, g3⟩ := hN e he
   have HR := Lib.hid (show RootIs L name (numAt ⟨e.val.toArray⟩ 0 4) from .inl ⟨e, he, hk, rfl⟩)
   obtain ⟨s, hs⟩ : ∃ s, s = (⟨e.val.toArray⟩ : ByteArray) := ⟨_, rfl⟩
   have hsz : s.size = 4 := by rw [hs]; show e.val.toArray.size = 4; simpa using g1
   rw [← hs] at HR g2 g3 ⊢
   have HT := Lib.hid fun (W : World) => take_ok s 0 4 W (by omega) (by omega) (by omega) (by omega)
   obtain ⟨r, hr⟩ : ∃ r, r = numAt s 0 4 := ⟨_, rfl⟩
   rw [← hr] at HR HT g2 g3
   have y1 : ((r : Int) == 0) = false := by simp; omega
   have y2 : ((s.size : Int) == 4) = true := by simp; omega
   have y3 := wrap_i64 r (by omega)
   clear hs hr he hk hN g1
   go_wp2_with fail
   refine (HT.out _).mono ?_
   rintro e w2 ⟨rfl, hb2⟩
   have HB2 := Lib.hid (HB.out.trans (hb2.mono HB.out.size))
   clear hb2
   go_wp2_with fail
   go_ret2
   exact ⟨HB2.out, r, rfl, HR.out⟩
 · have HR := Lib.hid (show RootIs L name 0 from .inr ⟨hno, rfl⟩)
   clear hno hN
   go_wp2_with fail
   go_ret2
   exact ⟨HB.out, 0, rfl, HR.out⟩
namespace Tr
theorem putE_in {key : ByteArray} {e : En} {l : List En} (hr : Rising l) (he : e.cell.key = key) (x : En) : x ∈ putE key e l ↔ x = e ∨ (x ∈ l ∧ x.cell.key ≠ key) := by
 obtain ⟨a, b, rfl, h1, h2⟩ := spot_split key l
 rw [putE_split a b key e h1 h2]
 obtain ⟨r1, r2, r3⟩ := rising_app hr
 have hg := rest_gt r2 h2
 have hne : ∀ {c d : ByteArray}, Nd.lt c d = true → c ≠ d := fun h e => by subst e; have := Nd.lt_asymm h; rw [h] at this; cases this
 have hb : ∀ y, y ∈ rest key b ↔ y ∈ b ∧ y.cell.key ≠ key := fun y => by
   refine ⟨fun h => ⟨rest_mem key b y h, fun e => hne (hg y h) e.symm⟩, fun ⟨h, hk⟩ => ?_⟩
   cases b with
   | nil => cases h
   | cons z t =>
     simp only [rest]
     split
     · next hz =>
       rcases List.mem_cons.1 h with rfl | h
       · exact absurd (Nd.str_ext (by simpa using hz)) hk
       · exact h
     · exact h
 rw [List.mem_append, List.mem_append, List.mem_singleton, List.mem_append, hb]
 constructor
 · rintro (h | h | h)
   · exact .inr ⟨.inl h, hne (h1 x h)⟩
   · exact .inl h
   · exact .inr ⟨.inr h.1, h.2⟩
 · rintro (h | ⟨h | h, hk⟩)
   · exact .inr (.inl h)
   · exact .inl h
   · exact .inr (.inr ⟨h, hk⟩)
theorem Stored.rising {σ : Book} {d no : Nat} {P : List Nat} {L : List En} (h : Stored σ d no P L) : Rising L := by
 obtain ⟨cs', P', -, -, -, -, g, -⟩ := h
 exact Part.rising g
theorem Root.ents {σ : Book} {root : Nat} {P : List Nat} {L : List En} (h : Root σ root P L) : ∀ e ∈ L, EnOk σ e := by
 rcases h with ⟨-, -, rfl⟩ | ⟨d, h⟩
 · simp
 · exact h.ents
theorem Root.rising {σ : Book} {root : Nat} {P : List Nat} {L : List En} (h : Root σ root P L) : Rising L := by
 rcases h with ⟨-, -, rfl⟩ | ⟨d, h⟩
 · exact List.Pairwise.nil
 · exact h.rising
theorem Root.mem {σ : Book} {root : Nat} {P : List Nat} {L : List En} (h : Root σ root P L) : ∀ n ∈ P, 1 ≤ n ∧ n < 512 ∧ σ n ≠ none := by
 rcases h with ⟨-, rfl, -⟩ | ⟨d, h⟩
 · simp
 · exact h.mem
theorem Root.congr {σ σ' : Book} {root : Nat} {P : List Nat} {L : List En} (h : Root σ root P L) (hk : ∀ n ∈ P, σ' n = σ n) : Root σ' root P L := by
 rcases h with ⟨rfl, rfl, rfl⟩ | ⟨d, h⟩
 · exact .inl ⟨rfl, rfl, rfl⟩
 · exact .inr ⟨d, h.congr hk⟩
theorem Root.small {σ : Book} {root : Nat} {P : List Nat} {L : List En} (h : Root σ root P L) : root < 512 := by
 rcases h with ⟨rfl, -, -⟩ | ⟨d, h⟩
 · omega
 · obtain ⟨_, _, _, _, h, _⟩ := h; exact h
theorem Root.zero {σ : Book} {root : Nat} {P : List Nat} {L : List En} (h : Root σ root P L) : root = 0 ↔ L = [] := by
 rcases h with ⟨rfl, rfl, rfl⟩ | ⟨d, h⟩
 · simp
 · obtain ⟨_, _, _, h1, h, _, _, _, h2, _⟩ := h
   exact ⟨fun e => by omega, fun e => absurd e h2⟩
end Tr
structure Tn where
 root : Nat
 P : List Nat
 L : List En
def Tn.Is (σ : Book) (t : Tn) : Prop := Tr.Root σ t.root t.P t.L
def Tn.zero : Tn := ⟨0, [], []⟩
structure Forest where
 main : Tn
 R : ByteArray → Option Nat
 tr : ByteArray → Tn
 NS : List ByteArray
def IsName (n : ByteArray) : Prop := 1 ≤ n.size ∧ n.size ≤ 32
namespace Forest
def flat (tr : ByteArray → Tn) (l : List ByteArray) : List Nat := l.flatMap fun n => (tr n).P
def pages (F : Forest) : List Nat := F.main.P ++ flat F.tr F.NS
structure Ok (F : Forest) (σ : Book) : Prop where
 main : F.main.Is σ
 each : ∀ n, (F.tr n).Is σ
 out : ∀ n, n ∉ F.NS → F.tr n = Tn.zero
 nodup : F.pages.Nodup
 full : ∀ n, σ n ≠ none → n ∈ F.pages
 names : ∀ e ∈ F.main.L, NameOk e
 law : ∀ n r, F.R n = some r → r = (F.tr n).root ∧ n ∈ F.NS
 law0 : ∀ n, F.R n = none → RootIs F.main.L n (F.tr n).root
 nd : F.NS.Nodup
 valid : ∀ n ∈ F.NS, IsName n
theorem flat_upd {tr : ByteArray → Tn} {n : ByteArray} {t : Tn} : ∀ {l : List ByteArray}, n ∉ l → flat (fun m => if m = n then t else tr m) l = flat tr l
 | [], _ => rfl
 | a :: l, h => by
   rw [List.mem_cons, not_or] at h
   unfold flat
   rw [List.flatMap_cons, List.flatMap_cons]
   have e1 : (if a = n then t else tr a) = tr a := if_neg (fun e => h.1 e.symm)
   show (if a = n then t else tr a).P ++ flat (fun m => if m = n then t else tr m) l = (tr a).P ++ flat tr l
   rw [e1, flat_upd h.2]
def known (l : List ByteArray) (n : ByteArray) : Bool := l.any fun m => decide (m = n)
theorem known_iff {l : List ByteArray} {n : ByteArray} : known l n = true ↔ n ∈ l := by
 unfold known
 rw [List.any_eq_true]
 constructor
 · rintro ⟨x, hx, h⟩
   have := of_decide_eq_true h
   subst this
   exact hx
 · exact fun h => ⟨n, h, by simp⟩
theorem perm_swap (a b c : List Nat) : (a ++ (b ++ c)).Perm (b ++ (a ++ c)) := by
 rw [← List.append_assoc, ← List.append_assoc]
 exact List.perm_append_comm.append_right _
def withName (F : Forest) (n : ByteArray) : Forest := if known F.NS n = true then F else { F with NS := n :: F.NS }
theorem with_tr (F : Forest) (n : ByteArray) : (F.withName n).tr = F.tr ∧ (F.withName n).R = F.R ∧ (F.withName n).main = F.main ∧ n ∈ (F.withName n).NS := by
 unfold withName
 split
 · next h => exact ⟨rfl, rfl, rfl, known_iff.1 h⟩
 · exact ⟨rfl, rfl, rfl, by simp⟩
theorem Ok.with {F : Forest} {σ : Book} (h : F.Ok σ) {n : ByteArray} (hn : IsName n) : (F.withName n).Ok σ := by
 unfold withName
 split
 · exact h
 · next hm0 =>
   have hm : n ∉ F.NS := fun h => hm0 (known_iff.2 h)
   have hp : ({ F with NS := n :: F.NS } : Forest).pages = F.pages := by
     unfold pages flat
     rw [List.flatMap_cons, h.out n hm]
     rfl
   refine ⟨h.main, h.each, fun m hm2 => h.out m (fun e => hm2 (by simp [e])), by rw [hp]; exact h.nodup, fun m hs => by rw [hp]; exact h.full m hs, h.names, fun m r hr => ⟨(h.law m r hr).1, by simp [(h.law m r hr).2]⟩, h.law0, List.nodup_cons.2 ⟨hm, h.nd⟩, fun m hm2 => ?_⟩
   rcases List.mem_cons.1 hm2 with rfl | hm2
   · exact hn
   · exact h.valid m hm2
theorem Ok.split {F : Forest} {σ : Book} (h : F.Ok σ) {n : ByteArray} (hn : n ∈ F.NS) : ∃ a b, F.NS = a ++ (n :: b) ∧ n ∉ a ∧ n ∉ b ∧ F.pages.Perm ((F.tr n).P ++ (F.main.P ++ (flat F.tr a ++ flat F.tr b))) := by
 obtain ⟨a, b, hab⟩ := List.append_of_mem hn
 have hnd := h.nd
 rw [hab] at hnd
 have hp := (List.perm_middle (a := n) (l₁ := a) (l₂ := b)).nodup_iff.1 hnd
 have h1 := (List.nodup_cons.1 hp).1
 rw [List.mem_append, not_or] at h1
 refine ⟨a, b, hab, h1.1, h1.2, ?_⟩
 unfold pages
 rw [hab]
 unfold flat
 rw [Tr.flatMap_app, List.flatMap_cons]
 have e1 : (F.main.P ++ (a.flatMap (fun n => (F.tr n).P) ++ ((F.tr n).P ++ b.flatMap (fun n => (F.tr n).P)))).Perm (F.main.P ++ ((F.tr n).P ++ (a.flatMap (fun n => (F.tr n).P) ++ b.flatMap (fun n => (F.tr n).P)))) := by
   exact List.Perm.append_left _ (perm_swap _ _ _)
 exact e1.trans (perm_swap _ _ _)
def put (F : Forest) (n : ByteArray) (t : Tn) : Forest := { F.withName n with tr := fun m => if m = n then t else F.tr m, R := fun m => if m = n then some t.root else F.R m }
theorem Ok.put {F : Forest} {σ σ' : Book} (h0 : F.Ok σ) {n : ByteArray} (hn : IsName n) {t : Tn} (ht : t.Is σ') (hm : Tr.Moved σ (F.tr n).P σ' t.P) : (F.put n t).Ok σ' := by
 have h := h0.with hn
 obtain ⟨e1, e2, e3, e4⟩ := F.with_tr n
 unfold Forest.put
 obtain ⟨G, hG⟩ : ∃ G, G = F.withName n := ⟨_, rfl⟩
 rw [← hG] at h e1 e2 e3 e4 ⊢
 rw [← e1] at hm
 rw [← e1, ← e2]
 obtain ⟨a, b, hab, ha, hb, hperm⟩ := h.split e4
 have hnd := hperm.nodup_iff.1 h.nodup
 obtain ⟨n1, n2, n3⟩ := List.nodup_append.1 hnd
 have hthere : ∀ m ∈ G.main.P ++ (flat G.tr a ++ flat G.tr b), σ m ≠ none := fun m hmm => by
   rcases List.mem_append.1 hmm with hmm | hmm
   · exact (h.main.mem m hmm).2.2
   · rcases List.mem_append.1 hmm with hmm | hmm
     all_goals
       obtain ⟨x, hx, hmm⟩ := List.mem_flatMap.1 hmm
       exact ((h.each x).mem m hmm).2.2
 have hap : ∀ m ∈ G.main.P ++ (flat G.tr a ++ flat G.tr b), m ∉ (G.tr n).P := fun m hmm hq => n3 m hq m hmm rfl
 have hfr := hm.frame hthere n2 hap
 have hsame := hm.same hthere hap
 have hpp : (Forest.pages { G with tr := fun m => if m = n then t else G.tr m, R := fun m => if m = n then some t.root else G.R m }).Perm (t.P ++ (G.main.P ++ (flat G.tr a ++ flat G.tr b))) := by
   unfold Forest.pages
   simp only
   rw [hab]
   have e : flat (fun m => if m = n then t else G.tr m) (a ++ n :: b) = flat G.tr a ++ (t.P ++ flat G.tr b) := by
     rw [← flat_upd (t := t) ha, ← flat_upd (t := t) hb]
     unfold flat
     rw [Tr.flatMap_app, List.flatMap_cons]
     have e9 : (if n = n then t else G.tr n) = t := if_pos rfl
     show _ ++ ((if n = n then t else G.tr n).P ++ _) = _
     rw [e9]
   rw [e]
   have e1 : (G.main.P ++ (flat G.tr a ++ (t.P ++ flat G.tr b))).Perm (G.main.P ++ (t.P ++ (flat G.tr a ++ flat G.tr b))) := by
     exact List.Perm.append_left _ (perm_swap _ _ _)
   exact e1.trans (perm_swap _ _ _)
 refine ⟨h.main.congr fun m hmm => hsame m (by simp [hmm]), fun m => ?_, fun m hmm => ?_, hpp.nodup_iff.2 hfr.nodup, fun m hs => ?_, h.names, fun m r hr => ?_, fun m hr => ?_, h.nd, h.valid⟩
 · by_cases e : m = n
   · simp only [e, if_true]; exact ht
   · simp only [if_neg e]
     refine (h.each m).congr fun x hx => hsame x ?_
     have hmn : m ∈ G.NS := by
       by_cases hc : m ∈ G.NS
       · exact hc
       · rw [h.out m hc] at hx; cases hx
     rw [hab, List.mem_append, List.mem_cons] at hmn
     simp only [List.mem_append]
     rcases hmn with hmn | hmn | hmn
     · exact .inr (.inl (List.mem_flatMap.2 ⟨m, hmn, hx⟩))
     · exact absurd hmn e
     · exact .inr (.inr (List.mem_flatMap.2 ⟨m, hmn, hx⟩))
 · have e : m ≠ n := fun e => hmm (by rw [e]; exact e4)
   simp only [if_neg e]
   exact h.out m hmm
 · rw [hpp.mem_iff]
   rcases hm.dom m hs with hd | ⟨hd1, hd2⟩
   · simp [hd]
   · have := h.full m hd2
     rw [hperm.mem_iff] at this
     rcases List.mem_append.1 this with h9 | h9
     · exact absurd h9 hd1
     · exact List.mem_append.2 (.inr h9)
 · by_cases e : m = n
   · simp only [e, if_true] at hr ⊢
     exact ⟨(Option.some.inj hr).symm, e4⟩
   · simp only [if_neg e] at hr ⊢
     exact h.law m r hr
 · by_cases e : m = n
   · simp only [e, if_true] at hr; cases hr
   · simp only [if_neg e] at hr ⊢
     exact h.law0 m hr
theorem Ok.root {F : Forest} {σ : Book} (h : F.Ok σ) (n : ByteArray) : (∃ r, F.R n = some r ∧ r = (F.tr n).root) ∨ (F.R n = none ∧ RootIs F.main.L n (F.tr n).root) := by
 cases hr : F.R n with
 | none => exact .inr ⟨rfl, h.law0 n hr⟩
 | some r => exact .inl ⟨r, rfl, (h.law n r hr).1⟩
end Forest
theorem RootIs.fun_ {L : List En} {name : ByteArray} {r r' : Nat} (hr : Tr.Rising L) (h : RootIs L name r) (h' : RootIs L name r') : r = r' := by
 have key : ∀ e ∈ L, ∀ e' ∈ L, e.cell.key = e'.cell.key → e = e' := fun e he e' he' hk => by
   obtain ⟨i, hi, rfl⟩ := List.mem_iff_getElem.1 he
   obtain ⟨j, hj, rfl⟩ := List.mem_iff_getElem.1 he'
   have hp := List.pairwise_iff_getElem.1 hr
   rcases Nat.lt_trichotomy i j with h | h | h
   · have := hp i j hi hj h
     rw [hk] at this
     have h2 := Nd.lt_asymm this
     rw [this] at h2; cases h2
   · subst h; rfl
   · have := hp j i hj hi h
     rw [hk] at this
     have h2 := Nd.lt_asymm this
     rw [this] at h2; cases h2
 rcases h with ⟨e, he, hk, rfl⟩ | ⟨h, rfl⟩
 · rcases h' with ⟨e', he', hk', rfl⟩ | ⟨h', rfl⟩
   · rw [key e he e' he' (hk.trans hk'.symm)]
   · exact absurd hk (h' e he)
 · rcases h' with ⟨e', he', hk', rfl⟩ | ⟨h', rfl⟩
   · exact absurd hk' (h e' he')
   · rfl
theorem RootIs.put {L : List En} (hr : Tr.Rising L) {key : ByteArray} {e : En} (he : e.cell.key = key) (m : ByteArray) (r : Nat) : RootIs (Tr.putE key e L) m r ↔ if m = key then r = numAt ⟨e.val.toArray⟩ 0 4 else RootIs L m r := by
 have hm := Tr.putE_in hr he
 split
 · next h =>
   subst h
   constructor
   · rintro (⟨x, hx, hk, rfl⟩ | ⟨h, -⟩)
     · rcases (hm x).1 hx with rfl | ⟨-, h⟩
       · rfl
       · exact absurd hk h
     · exact absurd he (h e ((hm e).2 (.inl rfl)))
   · rintro rfl
     exact .inl ⟨e, (hm e).2 (.inl rfl), he, rfl⟩
 · next h =>
   constructor
   · rintro (⟨x, hx, hk, rfl⟩ | ⟨h2, rfl⟩)
     · rcases (hm x).1 hx with rfl | ⟨hx, -⟩
       · exact absurd (hk.symm.trans he) h
       · exact .inl ⟨x, hx, hk, rfl⟩
     · refine .inr ⟨fun x hx hk => h2 x ((hm x).2 (.inr ⟨hx, fun e => h (hk.symm.trans e)⟩)) hk, rfl⟩
   · rintro (⟨x, hx, hk, rfl⟩ | ⟨h2, rfl⟩)
     · exact .inl ⟨x, (hm x).2 (.inr ⟨hx, fun e => h (hk.symm.trans e)⟩), hk, rfl⟩
     · refine .inr ⟨fun x hx hk => ?_, rfl⟩
       rcases (hm x).1 hx with rfl | ⟨hx, -⟩
       · exact h (hk.symm.trans he)
       · exact h2 x hx hk
namespace Forest
def tell (F : Forest) (t : Tn) (n : ByteArray) : Forest := { F with main := t, R := fun m => if m = n then none else F.R m }
theorem Ok.tell {F : Forest} {σ σ' : Book} (h : F.Ok σ) {t : Tn} (ht : t.Is σ') (hm : Tr.Moved σ F.main.P σ' t.P) (hN : ∀ e ∈ t.L, NameOk e) (n : ByteArray) (hn : RootIs t.L n (F.tr n).root) (hrest : ∀ m r, m ≠ n → (RootIs F.main.L m r → RootIs t.L m r)) : (F.tell t n).Ok σ' := by
 unfold Forest.tell
 have hnd := h.nodup
 unfold Forest.pages at hnd
 obtain ⟨n1, n2, n3⟩ := List.nodup_append.1 hnd
 have hthere : ∀ m ∈ flat F.tr F.NS, σ m ≠ none := fun m hmm => by
   obtain ⟨x, hx, hmm⟩ := List.mem_flatMap.1 hmm
   exact ((h.each x).mem m hmm).2.2
 have hap : ∀ m ∈ flat F.tr F.NS, m ∉ F.main.P := fun m hmm hq => n3 m hq m hmm rfl
 have hfr := hm.frame hthere n2 hap
 have hsame := hm.same hthere hap
 refine ⟨ht, fun m => (h.each m).congr fun x hx => hsame x ?_, h.out, hfr.nodup, fun m hs => ?_, hN, fun m r hr => ?_, fun m hr => ?_, h.nd, h.valid⟩
 · have hmn : m ∈ F.NS := by
     by_cases hc : m ∈ F.NS
     · exact hc
     · have e := h.out m hc
       have hx2 : x ∈ (F.tr m).P := hx
       rw [e] at hx2; cases hx2
   exact List.mem_flatMap.2 ⟨m, hmn, hx⟩
 · show m ∈ t.P ++ flat F.tr F.NS
   rcases hm.dom m hs with hd | ⟨hd1, hd2⟩
   · simp [hd]
   · rcases List.mem_append.1 (h.full m hd2) with h9 | h9
     · exact absurd h9 hd1
     · exact List.mem_append.2 (.inr h9)
 · have hr : (if m = n then none else F.R m) = some r := hr
   by_cases e : m = n
   · rw [if_pos e] at hr; cases hr
   · rw [if_neg e] at hr
     exact h.law m r hr
 · have hr : (if m = n then none else F.R m) = none := hr
   by_cases e : m = n
   · subst e; exact hn
   · rw [if_neg e] at hr
     exact hrest m _ e (h.law0 m hr)
end Forest
theorem tmay_ok {w : World} {t : Nat} {cs : Array Value} (h : Bk w t 103 cs) (h13 : cs[13]? = some (.bool false)) : Calls Tryz.prog 49 #[.pointer (some ⟨t, 0, none⟩)] w (fun e w' => e = .returned (.int .i64 0) ∧ w = w') := by
 have c13 := (h.cell 13).trans h13
 have lt := h.lt
 clear h h13
 go_enter Tryz.func49, Tryz.ntmps49
 go_wp2_with fail
 go_ret
 exact ⟨rfl, rfl⟩
theorem tend_ok (t : Nat) (w : World) : Calls Tryz.prog 47 #[.pointer (some ⟨t, 0, none⟩), .int .i64 0] w (fun e w' => e = .returned (.int .i64 0) ∧ w = w') := by
 go_enter Tryz.func47, Tryz.ntmps47
 go_wp2_with fail
 go_ret
 exact ⟨rfl, rfl⟩
def rootsV (R : ByteArray → Option Nat) : ByteArray → Option Value := fun n => (R n).map fun (r : Nat) => Value.int .i64 r
structure Wr (E : Kv) (F : Prop) (w : World) (S : List Nat) (σ : Book) (k : Nat) (Fo : Forest) (nr : Nat) : Prop where
 at_ : (kvStore E F).At w S σ k
 roots : ∃ n, n ≤ nr ∧ SMap Tryz.prog 9 w E.rm n (rootsV Fo.R)
 rm : E.rm ∉ S
 ok : Fo.Ok σ
 root : E.root = Fo.main.root
 open_ : E.over = false
 first : E.stage = 0
theorem Wr.cells {E : Kv} {F : Prop} {w : World} {S : List Nat} {σ : Book} {k nr : Nat} {Fo : Forest} (h : Wr E F w S σ k Fo nr) : ∃ (x : Tx) (f dm : Nat) (lv fv : Value), Bk w E.t 103 (txCells E x f dm lv fv) := by
 obtain ⟨x, f, dm, nn, Sf, lv, fv, hm, -⟩ := h.at_
 exact ⟨x, f, dm, lv, fv, hm.cells⟩
theorem Wr.below {E : Kv} (hE : E.Ok) {F : Prop} {w w' : World} {S : List Nat} {σ : Book} {k nr : Nat} {Fo : Forest} (h : Wr E F w S σ k Fo nr) (hb : Below w.heap.size w w') : Wr E F w' S σ k Fo nr := by
 obtain ⟨n0, h1, h2⟩ := h.roots
 exact ⟨(kv_serves hE F).below h.at_ hb, ⟨n0, h1, h2.off (Off.of_below hb []) (by simp)⟩, h.rm, h.ok, h.root, h.open_, h.first⟩
set_option maxHeartbeats 16000000 in
theorem troot_any {E : Kv} (hE : E.Ok) {F : Prop} {w : World} {S : List Nat} {σ : Book} {k nr : Nat} {Fo : Forest} (h : Wr E F w S σ k Fo nr) (name : ByteArray) (hn : IsName name) :
   Calls Tryz.prog 46 #[.pointer (some ⟨E.t, 0, none⟩), .string name] w (fun e w' => e = .returned (.tuple #[.int .i64 (Fo.tr name).root, .int .i64 0]) ∧ Below w.heap.size w w') := by
 obtain ⟨x, f, dm, lv, fv, hc⟩ := h.cells
 obtain ⟨n0, hn0, hm⟩ := h.roots
 have c11 : w.cell? ⟨E.t, 11, none⟩ = some (.map (some E.rm)) := hc.cell 11
 have c3 : w.cell? ⟨E.t, 3, none⟩ = some (.int .i64 E.root) := hc.cell 3
 have lt := hc.lt
 have hl : ∀ W, Off [] w W → (Instr.lookup 101 (.map (some E.rm)) (.string name) true).run Tryz.prog W = .ok (.tuple #[(rootsV Fo.R name).getD (.int .i64 0), .bool (rootsV Fo.R name).isSome]) W := fun W hW =>
   (hm.off hW (by simp)).look2 Tryz.underlying9 Tryz.underlying101 (z := .int .i64 0) (by kernel_rfl) (by have := hn.2; unfold maxLen; omega)
 have hroot := h.root
 rcases h.ok.root name with ⟨r, e1, e2⟩ | ⟨e1, e2⟩
 · have hl1 : (Instr.lookup 101 (.map (some E.rm)) (.string name) true).run Tryz.prog w = .ok (.tuple #[.int .i64 r, .bool true]) w := by
     have := hl w (Off.refl _ _)
     unfold rootsV at this
     rw [e1] at this
     exact this
   rw [← e2]
   clear h hm hl hc e1 e2 hroot
   go_enter Tryz.func46, Tryz.ntmps46
   go_wp2_with fail
   go_ret2
   exact ⟨rfl, Below.refl _ _⟩
 · have hl1 : (Instr.lookup 101 (.map (some E.rm)) (.string name) true).run Tryz.prog w = .ok (.tuple #[.int .i64 0, .bool false]) w := by
     have := hl w (Off.refl _ _)
     unfold rootsV at this
     rw [e1] at this
     exact this
   have HR := Lib.hid (show Calls Tryz.prog 58 #[.iface 111 (.agg #[.pointer (some ⟨E.t, 0, none⟩)]), .int .i64 Fo.main.root, .string name] w (fun e w' => Below w.heap.size w w' ∧ ∃ r : Nat, e = .returned (.tuple #[.int .i64 r, .int .i64 0]) ∧ RootIs Fo.main.L name r) from rootof_any (kv_serves hE F).toReads h.at_ Fo.main.root (h.ok.main.deep (List.nodup_append.1 h.ok.nodup).1) h.ok.main.ents h.ok.names name hn.1 hn.2)
   have HF := Lib.hid fun (r : Nat) (hr : RootIs Fo.main.L name r) => RootIs.fun_ h.ok.main.rising hr e2
   rw [hroot] at c3
   clear h hm hl hc e1 e2 hroot
   go_enter Tryz.func46, Tryz.ntmps46
   go_wp2_with fail
   refine HR.out.mono ?_
   rintro e w1 ⟨hb1, r, rfl, hr⟩
   have hr2 := HF.out r hr
   have HB := Lib.hid hb1
   subst hr2
   clear hb1 hr
   go_wp2_with fail
   go_ret2
   exact ⟨rfl, HB.out⟩
set_option maxHeartbeats 16000000 in
theorem tget_any {E : Kv} (hE : E.Ok) {F : Prop} {w : World} {S : List Nat} {σ : Book} {k nr : Nat} {Fo : Forest} (h : Wr E F w S σ k Fo nr) (name key : ByteArray) (hn : IsName name) :
   Calls Tryz.prog 17 #[.pointer (some ⟨E.t, 0, none⟩), .string name, .string key] w (fun e w' => Below w.heap.size w w' ∧ ∃ v, e = .returned v ∧ GetsV (Fo.tr name).L key v) := by
 obtain ⟨x, f, dm, lv, fv, hc⟩ := h.cells
 have HM := Lib.hid (tmay_ok hc (by rw [show (txCells E x f dm lv fv)[13]? = some (.bool E.over) from rfl, h.open_]))
 have HR := Lib.hid (troot_any hE h name hn)
 have hdeep : Tr.Deep σ (Fo.tr name).root (Fo.tr name).L := (h.ok.each name).deep (by
   by_cases hc : name ∈ Fo.NS
   · obtain ⟨a, b, -, -, -, hp⟩ := h.ok.split hc
     exact (List.nodup_append.1 (hp.nodup_iff.1 h.ok.nodup)).1
   · rw [h.ok.out name hc]; exact List.nodup_nil)
 have HG := Lib.hid fun (W : World) (hb : Below w.heap.size w W) => (show Calls Tryz.prog 59 #[.iface 111 (.agg #[.pointer (some ⟨E.t, 0, none⟩)]), .int .i64 (Fo.tr name).root, .string key] W (fun e w' => Below W.heap.size W w' ∧ ∃ v, e = .returned v ∧ GetsV (Fo.tr name).L key v) from get_any (kv_serves hE F).toReads ((kv_serves hE F).below h.at_ hb) (Fo.tr name).root hdeep (h.ok.each name).ents key)
 have HE := Lib.hid fun (W : World) => tend_ok E.t W
 clear h hc hdeep
 go_enter Tryz.func17, Tryz.ntmps17
 go_wp2_with fail
 refine HM.out.mono ?_
 rintro e w1 ⟨rfl, rfl⟩
 go_wp2_with fail
 refine HR.out.mono ?_
 rintro e w2 ⟨rfl, hb2⟩
 have HB2 := Lib.hid hb2
 clear hb2
 go_wp2_with fail
 refine (HG.out _ HB2.out).mono ?_
 rintro e w3 ⟨hb3, v, rfl, hv⟩
 have HB3 := Lib.hid (HB2.out.trans (hb3.mono HB2.out.size))
 clear hb3
 rcases hv with ⟨y, hy, hk, rfl⟩ | ⟨hno, rfl⟩
 · have HV := Lib.hid (show GetsV (Fo.tr name).L key (.tuple #[.string ⟨y.val.toArray⟩, .bool true, .int .i64 0]) from .inl ⟨y, hy, hk, rfl⟩)
   obtain ⟨s, hs⟩ : ∃ s, s = (⟨y.val.toArray⟩ : ByteArray) := ⟨_, rfl⟩
   rw [← hs] at HV ⊢
   clear hs hy hk
   go_wp2_with fail
   refine (HE.out _).mono ?_
   rintro e w4 ⟨rfl, rfl⟩
   go_wp2_with fail
   go_ret3
   exact ⟨HB3.out, _, rfl, HV.out⟩
 · have HV := Lib.hid (show GetsV (Fo.tr name).L key (.tuple #[.string ⟨#[]⟩, .bool false, .int .i64 0]) from .inr ⟨hno, rfl⟩)
   clear hno
   go_wp2_with fail
   refine (HE.out _).mono ?_
   rintro e w4 ⟨rfl, rfl⟩
   go_wp2_with fail
   go_ret3
   exact ⟨HB3.out, _, rfl, HV.out⟩
theorem name_ne {n : ByteArray} (h : 1 ≤ n.size) : (n.toList == []) = false ∧ (n.toList == (⟨#[]⟩ : ByteArray).toList) = false := by
 have hne : (n.toList == []) = false := by
   have : n.toList.length = n.size := by rw [ByteArray.toList_eq]; rfl
   cases hl : n.toList with
   | nil => rw [hl] at this; simp at this; omega
   | cons a t => rfl
 refine ⟨hne, ?_⟩
 have : (⟨#[]⟩ : ByteArray).toList = [] := by rw [ByteArray.toList_eq]
 rw [this]; exact hne
set_option maxHeartbeats 8000000 in
theorem tchange_ok {w : World} {t : Nat} {cs : Array Value} (h : Bk w t 103 cs) (h13 : cs[13]? = some (.bool false)) (h12 : cs[12]? = some (.int .i64 0)) (name : ByteArray) (hn : IsName name) :
   Calls Tryz.prog 45 #[.pointer (some ⟨t, 0, none⟩), .string name] w (fun e w' => e = .returned (.int .i64 0) ∧ w = w') := by
 have HM := Lib.hid (tmay_ok h h13)
 have c12 := (h.cell 12).trans h12
 have lt := h.lt
 obtain ⟨hne, hne2⟩ := name_ne hn.1
 have z1 : decide ((32 : Int) < (name.size : Int)) = false := decide_eq_false (by have := hn.2; omega)
 have z2 : decide (32 < name.size) = false := decide_eq_false (by have := hn.2; omega)
 clear h h13 h12 hn
 go_enter Tryz.func45, Tryz.ntmps45
 go_wp2_with fail
 refine HM.out.mono ?_
 rintro e w1 ⟨rfl, rfl⟩
 go_wp2_with fail
 go_ret
 exact ⟨rfl, rfl⟩
theorem tend_err {w : World} {t : Nat} {cs : Array Value} (h : Bk w t 103 cs) (x : Int) (hx : x ≠ 0) (h13 : ∃ v, cs[13]? = some v) : Calls Tryz.prog 47 #[.pointer (some ⟨t, 0, none⟩), .int .i64 x] w (fun e w' => e = .returned (.int .i64 x) ∧ w' = w.setCell ⟨t, 13, none⟩ (.bool true)) := by
 obtain ⟨v, h13⟩ := h13
 have c13 := (h.cell 13).trans h13
 have f13 := h.frozen 13
 have lt := h.lt
 have z1 : (x == 0) = false := by rw [beq_eq_false_iff_ne]; exact hx
 clear h h13
 go_enter Tryz.func47, Tryz.ntmps47
 go_wp2_with fail
 go_ret
 exact ⟨rfl, rfl⟩
theorem KvMem.other {E E' : Kv} {w w' : World} {S hd : List Nat} {x : Tx} {f dm nn : Nat} {Sf : List Nat} {lv fv : Value} (h : KvMem E w S hd x f dm nn Sf lv fv) (hc : Bk w' E.t 103 (txCells E' x f dm lv fv)) (ho : Off [E.t] w w')
   (he : E'.t = E.t ∧ E'.b = E.b ∧ E'.q = E.q ∧ E'.r = E.r ∧ E'.g = E.g ∧ E'.T = E.T ∧ E'.Sd = E.Sd ∧ E'.P = E.P ∧ E'.D = E.D ∧ E'.s = E.s ∧ E'.txn = E.txn ∧ E'.limit = E.limit ∧ E'.U = E.U ∧ E'.pc = E.pc ∧ E'.disk = E.disk ∧ E'.c2 = E.c2 ∧ E'.c3 = E.c3 ∧ E'.c4 = E.c4 ∧ E'.ro = E.ro) :
   KvMem E' w' S hd x f dm nn Sf lv fv := by
 have hm := h.nodup
 unfold txMut at hm
 have ht := (List.nodup_cons.1 hm).1
 have hst : ∀ b ∈ E.still, b ∉ [E.t] := fun b hb hs => by
   rw [List.mem_singleton] at hs
   subst hs
   exact h.apart E.t (by simp [txMut]) hb
 have hmu : ∀ b, b ∈ dm :: (lv.ownBlock.toList ++ (fv.ownBlock.toList ++ Sf)) → b ∉ [E.t] := fun b hb hs => by
   rw [List.mem_singleton] at hs
   subst hs
   exact ht hb
 have h' : KvMem E w S hd x f dm nn Sf lv fv := h
 obtain ⟨a1, a2, a3, a4, a5, a6, a7, a8, a9, a10, a11, a12, a13, a14, a15, a16, a17, a18, a19⟩ := he
 have hstill : E'.still = E.still := by unfold Kv.still; rw [a2, a3, a4, a6, a7]
 exact ⟨by rw [a1]; exact hc, h.free.off ho (fun b hb => hmu b (by simp [hb])), by rw [a11]; exact h.map.off ho (hmu _ (by simp)), h.nn, ho.own h.loose (fun b hb => hmu b (by simp [hb])), ho.own h.freed (fun b hb => hmu b (by simp [hb])),
   by rw [a2, a3, a4, a16, a17, a18]; exact ho.bk h.db (hst _ (by simp [Kv.still])), by rw [a4, a10]; exact ho.bk h.rd (hst _ (by simp [Kv.still])), by rw [a3, a6, a5, a8]; exact h.pg.off ho (fun b hb => hst b (by simp [Kv.still, hb])),
   by rw [a5, a7, a9]; exact h.dev.off ho (fun b hb => hst b (by simp [Kv.still, hb])), by rw [a19]; exact h.row.off ho (hst _ (by simp [Kv.still])), by rw [a12, a15, a13, a14]; exact h.ok, by rw [hstill, a1]; exact h.blocks, by rw [a1]; exact h.nodup, by rw [hstill, a1]; exact h.apart⟩
def TPutWay (E : Kv) (F : Prop) (S : List Nat) (k c : Nat) (Fo : Forest) (nr : Nat) (name key val : ByteArray) (w : World) (e : Ending) (w' : World) : Prop :=
 (e = .returned (.int .i64 0) ∧ ∃ (y : En) (t : Tn) (σ' : Book) (S' : List Nat) (k' : Nat), y.cell.key = key ∧ y.val = val.data.toList ∧ y.pages.length = Tr.pieces val.size ∧ t.L = Tr.putE key y (Fo.tr name).L ∧ Wr E F w' S' σ' k' (Fo.put name t) (nr + 1) ∧ k ≤ k' + (c + Tr.pieces val.size) ∧ Off (E.rm :: S) w w' ∧ Fresh w S S')
 ∨ (F ∧ e = .returned (.int .i64 9) ∧ ∃ (σ' : Book) (S' : List Nat), (kvStore { E with over := true } F).At w' S' σ' 0 ∧ Off S w w' ∧ Fresh w S S')
set_option maxHeartbeats 16000000 in
theorem tput_any {E : Kv} (hE : E.Ok) {F : Prop} {w : World} {S : List Nat} {σ : Book} {k nr : Nat} {Fo : Forest} (h : Wr E F w S σ k Fo nr) (hnr : nr ≤ 100000) (name key val : ByteArray) (hn : IsName name) (hk1 : 1 ≤ key.size) (hk2 : key.size ≤ 120) (hv : val.size ≤ 4000)
   {c : Nat} (hrc : Tr.RootC σ c (Fo.tr name).root (Fo.tr name).P (Fo.tr name).L) (hk : F ∨ c + Tr.pieces val.size ≤ k) :
   Calls Tryz.prog 12 #[.pointer (some ⟨E.t, 0, none⟩), .string name, .string key, .string val] w (TPutWay E F S k c Fo nr name key val w) := by
 obtain ⟨x, f, dm, lv, fv, hc⟩ := h.cells
 have HM := Lib.hid (tchange_ok hc (by rw [show (txCells E x f dm lv fv)[13]? = some (.bool E.over) from rfl, h.open_]) (by rw [show (txCells E x f dm lv fv)[12]? = some (.int .i64 E.stage) from rfl, h.first]) name hn)
 have HR := Lib.hid (troot_any hE h name hn)
 have hndp : (Fo.tr name).P.Nodup := by
   by_cases hc : name ∈ Fo.NS
   · obtain ⟨a, b, -, -, -, hp⟩ := h.ok.split hc
     exact (List.nodup_append.1 (hp.nodup_iff.1 h.ok.nodup)).1
   · rw [h.ok.out name hc]; exact List.nodup_nil
 have hS := (kv_serves hE F).old h.at_
 have HP := Lib.hid fun (W : World) (hb : Below w.heap.size w W) => (show Calls Tryz.prog 48 #[.iface 111 (.agg #[.pointer (some ⟨E.t, 0, none⟩)]), .int .i64 (Fo.tr name).root, .string key, .string val] W (fun e w' => ∃ a b : Int, e = .returned (.tuple #[.int .i64 a, .int .i64 b]) ∧ Hid (PutTells (kvStore E F) S σ k c (Fo.tr name).P (Fo.tr name).L key val W (.returned (.tuple #[.int .i64 a, .int .i64 b])) w')) from
   (put_any (kv_serves hE F) ((kv_serves hE F).below h.at_ hb) (Fo.tr name).root hrc hndp key val hk1 hk2 hv hk).mono fun e w' ⟨y, e1, e2, e3, e4⟩ => by
     obtain ⟨a, b, rfl, h5⟩ := e4.letters
     exact ⟨a, b, rfl, Lib.hid ⟨y, e1, e2, e3, h5.out⟩⟩)
 have HW := Lib.hid h
 have HS := Lib.hid hS
 have lt := hc.lt
 clear h hc hndp hS hrc hk hk1 hk2 hv
 go_enter Tryz.func12, Tryz.ntmps12
 go_wp2_with fail
 refine HM.out.mono ?_
 rintro e w1 ⟨rfl, rfl⟩
 go_wp2_with fail
 refine HR.out.mono ?_
 rintro e w2 ⟨rfl, hb2⟩
 have HB2 := Lib.hid hb2
 clear hb2
 go_wp2_with fail
 refine (HP.out _ HB2.out).mono ?_
 rintro e w3 ⟨a, b, rfl, hw3⟩
 obtain ⟨y, e1, e2, e3, e4⟩ := hw3.out
 have HB := Lib.hid HB2.out
 rcases e4 with ⟨root, P', σ', S', k', e5, hrt, hmv, hat, hk', hof, hfr⟩ | ⟨hF, e5, σ', S', hat, hof, hfr⟩
 · injection e5 with e5
   injection e5 with e5
   simp only [Array.mk.injEq, List.cons.injEq, Value.int.injEq, true_and, and_true] at e5
   obtain ⟨rfl, rfl⟩ := e5
   obtain ⟨nr0, hnr0, hrm⟩ := HW.out.roots
   have hofw : Off S w w3 := (Off.of_below HB.out S).trans hof
   have hfrw : Fresh w S S' := hfr.mono HB.out.size
   have hrm3 := hrm.off hofw HW.out.rm
   obtain ⟨w4, hrun, hrm4, hg4⟩ := (hrm3.off ((Off.refl [] w3).drew) (by simp)).update Tryz.underlying9 Tryz.underlying101 (by unfold maxLen; omega) (s := name) (by have := hn.2; unfold maxLen; omega) (.int .i64 (root : Nat))
   obtain ⟨w5, hrun5, hrm5, hg5⟩ := hrm3.update Tryz.underlying9 Tryz.underlying101 (by unfold maxLen; omega) (s := name) (by have := hn.2; unfold maxLen; omega) (.int .i64 (root : Nat))
   obtain ⟨x3, f3, dm3, nn3, Sf3, lv3, fv3, hm3, hσ3, hk3⟩ := hat
   have q11 : w3.cell? ⟨E.t, 11, none⟩ = some (.map (some E.rm)) := hm3.cells.cell 11
   have lt3 := hm3.cells.lt
   have hrmS' : E.rm ∉ S' := fun hs => by
     rcases hfrw _ hs with h1 | h1
     · exact HW.out.rm h1
     · have := hrm.lt; omega
   have hroots : ∀ j, (if j = name then some (Value.int .i64 (root : Nat)) else rootsV Fo.R j) = rootsV (Fo.put name ⟨root, P', Tr.putE key y (Fo.tr name).L⟩).R j := fun j => by
     unfold rootsV Forest.put
     simp only
     split <;> rfl
   have hend : ∀ w', SMap Tryz.prog 9 w' E.rm (nr0 + 1) (fun j => if j = name then some (Value.int .i64 (root : Nat)) else rootsV Fo.R j) → Off [E.rm] w3 w' → TPutWay E F S k c Fo nr name key val w (.returned (.int .i64 0)) w' := fun w' hr ho =>
     .inl ⟨rfl, y, ⟨root, P', Tr.putE key y (Fo.tr name).L⟩, σ', S', k', e1, e2, e3, rfl,
       ⟨(kv_serves hE F).off ⟨x3, f3, dm3, nn3, Sf3, lv3, fv3, hm3, hσ3, hk3⟩ ho (fun b hb hs => by rw [List.mem_singleton] at hs; subst hs; exact hrmS' hb), ⟨nr0 + 1, by omega, by rw [← (funext hroots : _ = rootsV _)]; exact hr⟩, hrmS', HW.out.ok.put hn hrt hmv, by
         rw [HW.out.root]
         unfold Forest.put Forest.withName
         split <;> rfl, HW.out.open_, HW.out.first⟩, hk', (hofw.mono (fun b hb => .inl (by simp [hb]))).trans (ho.mono (fun b hb => .inl (by simp at hb; simp [hb]))), hfrw⟩
   have HE4 := Lib.hid (hend w4 hrm4 ((Off.refl [E.rm] w3).drew.grown hg4 (fun g hg => .inl (by simp at hg; simp [hg]))))
   have HE5 := Lib.hid (hend w5 hrm5 ((Off.refl [E.rm] w3).grown hg5 (fun g hg => .inl (by simp at hg; simp [hg]))))
   clear hend hroots hrm hrm3 hrm4 hg4 hrm5 hg5 hm3 hσ3 hk3 hrt hmv hk' hof hfr hofw hfrw hw3 e1 e2 e3 hrmS'
   go_wp2_with fail
   go_ret
   first | exact HE4.out | exact HE5.out
 · injection e5 with e5
   injection e5 with e5
   simp only [Array.mk.injEq, List.cons.injEq, Value.int.injEq, true_and, and_true] at e5
   obtain ⟨rfl, rfl⟩ := e5
   obtain ⟨x3, f3, dm3, nn3, Sf3, lv3, fv3, hm3, hσ3, hk3⟩ := hat
   have hofw : Off S w w3 := (Off.of_below HB.out S).trans hof
   have hfrw : Fresh w S S' := hfr.mono HB.out.size
   have lt3 := hm3.cells.lt
   have hov : Bk (w3.setCell ⟨E.t, 13, none⟩ (.bool true)) E.t 103 (txCells { E with over := true } x3 f3 dm3 lv3 fv3) := by
     have := hm3.cells.put 13 (.bool true)
     exact this
   have ht : E.t ∈ S' := by rw [hm3.blocks]; simp [txMut]
   have HEND := Lib.hid (tend_err hm3.cells 9 (by decide) ⟨_, rfl⟩)
   have HE := Lib.hid (show TPutWay E F S k c Fo nr name key val w (.returned (.int .i64 9)) (w3.setCell ⟨E.t, 13, none⟩ (.bool true)) from
     .inr ⟨hF, rfl, σ', S', ⟨x3, f3, dm3, nn3, Sf3, lv3, fv3, hm3.other hov ((Off.refl [E.t] w3).setCell (p := ⟨E.t, 13, none⟩) (.inl (by simp)) _) ⟨rfl, rfl, rfl, rfl, rfl, rfl, rfl, rfl, rfl, rfl, rfl, rfl, rfl, rfl, rfl, rfl, rfl, rfl, rfl⟩, hσ3, hk3.other ⟨rfl, rfl, rfl, rfl, rfl⟩⟩, hofw.setCell (p := ⟨E.t, 13, none⟩) (by
       rcases hfrw _ ht with h1 | h1
       · exact .inl h1
       · exact .inr h1) _, hfrw⟩)
   clear hov ht hm3 hσ3 hk3 hof hfr hofw hfrw hw3
   go_wp2_with fail
   refine HEND.out.mono ?_
   rintro e w4 ⟨rfl, rfl⟩
   go_wp2_with fail
   go_ret
   exact HE.out
def SparePost (l : List (Nat × Nat)) (w : World) (e : Ending) (w' : World) : Prop := ∃ f2 S2, e = .returned (.tuple #[.pointer (some ⟨f2, 0, none⟩), .int .i64 0]) ∧ FLO w' f2 S2 l ∧ Below w.heap.size w w' ∧ ∀ b ∈ S2, w.heap.size ≤ b
structure Spared (w : World) (t : Nat) (fr : List (Nat × Nat)) (ms : List Nat) (f2 : Nat) (A3 : Option Addr) (j : Nat) (w' : World) (S2 : List Nat) : Prop where
 list : FLO w' f2 S2 (Fr.addAll t fr (ms.take j))
 below : Below w.heap.size w w'
 new : ∀ b ∈ S2, w.heap.size ≤ b
 row : Sl w' A3 (ints ms)
 apart : ∀ a, A3 = some a → a.block ∉ S2
set_option maxHeartbeats 16000000 in
theorem spare_any {E : Kv} (hE : E.Ok) {w : World} {S hd : List Nat} {x : Tx} {f dm nn : Nat} {Sf : List Nat} {lv fv : Value} (h : KvMem E w S hd x f dm nn Sf lv fv) (hpv : w.ownsRow 0 3 1 E.c3 E.pc.length (ints E.pc)) {A : Option Addr} {c : Nat} (hch : Sl w A (ints hd)) :
   Calls Tryz.prog 110 #[.pointer (some ⟨E.t, 0, none⟩), .slice A hd.length c] w (SparePost (Fr.addAll E.txn x.fr (x.more E.pc)) w) := by
 obtain ⟨hnd, hin, hlen⟩ := h.ok.spare
 have hsr := h.ok.sorted
 have hle := h.ok.le
 have hlim := h.ok.lim
 have htx := hE.txn2
 have HC := Lib.hid (fcopy_any h.free (by omega))
 obtain ⟨Al, cl, hlv, -, -⟩ := own_formK h.loose
 obtain ⟨Af, cf, hfv, -, -⟩ := own_formK h.freed
 obtain ⟨Ap, cp, hpw, -, -⟩ := own_formK hpv
 have HSL := Lib.hid (show Sl w Al (ints x.loose) from Sl.of_own (by have := h.loose; rw [hlv] at this; exact this))
 have HSF := Lib.hid (show Sl w Af (ints x.freed) from Sl.of_own (by have := h.freed; rw [hfv] at this; exact this))
 have HSP := Lib.hid (show Sl w Ap (ints E.pc) from Sl.of_own (by have := hpv; rw [hpw] at this; exact this))
 have HKS := Lib.hid (show ∀ W, Below w.heap.size w W → W.cell? ⟨E.t, 10, none⟩ = some (.slice Af x.freed.length cf) ∧ W.cell? ⟨E.t, 9, none⟩ = some (.slice Al x.loose.length cl) ∧ W.cell? ⟨E.t, 0, none⟩ = some (.pointer (some ⟨E.b, 0, none⟩)) ∧ W.cell? ⟨E.b, 3, none⟩ = some (.slice Ap E.pc.length cp) ∧ W.cell? ⟨E.t, 1, none⟩ = some (.int .i64 E.txn) from fun W hW => by
   have k1 := bk_below h.cells hW
   have k2 := bk_below h.db hW
   refine ⟨?_, ?_, k1.cell 0, ?_, k1.cell 1⟩
   · have := k1.cell 10
     rw [← hfv]; exact this
   · have := k1.cell 9
     rw [← hlv]; exact this
   · have := k2.cell 3
     rw [← hpw]; exact this)
 have HLM := Lib.hid (show x.freed.length + x.loose.length + E.pc.length ≤ 10000 from by
   have := hlen
   unfold Tx.more at this
   rw [List.length_append, List.length_append] at this
   have := h.ok.le
   have := h.ok.lim
   omega)
 have HMORE := Lib.hid (show x.freed ++ (x.loose ++ E.pc) = x.more E.pc from rfl)
 have HCH := Lib.hid hch
 obtain ⟨m1, hm1⟩ : ∃ m, m = hd.length := ⟨_, rfl⟩
 have hhd : hd.length ≤ 1000 := by
   obtain ⟨dk, k1, k2⟩ := h.ok.perm
   have h1 := k2.length_eq
   simp only [List.length_append, nums, List.length_map, List.length_range] at h1
   omega
 have HCT := Lib.hid fun (W : World) (hW : Below w.heap.size w W) (n : Nat) (hn : n ∈ x.more E.pc) => contains_no (c := c) (hch.below hW) (by omega) n (hin n hn).1
 have HMS := Lib.hid (show (∀ j (hj : j < (x.more E.pc).length), Fr.Sorted (Fr.addAll E.txn x.fr ((x.more E.pc).take j)) ∧ (Fr.addAll E.txn x.fr ((x.more E.pc).take j)).length = x.fr.length + j ∧ (x.more E.pc)[j] ∉ Fr.pg (Fr.addAll E.txn x.fr ((x.more E.pc).take j)) ∧ Fr.addAll E.txn x.fr ((x.more E.pc).take (j + 1)) = Fr.ins (Fr.addAll E.txn x.fr ((x.more E.pc).take j)) (E.txn, (x.more E.pc)[j])) from fun j hj => Fr.addAll_at hsr hnd j hj)
 have HIN := Lib.hid (show ∀ n ∈ x.more E.pc, Fr.ok (E.txn, n) = true from fun n hn => by
   have := (hin n hn).2
   unfold Fr.ok
   simp
   omega)
 have hfrl : x.fr.length + (x.more E.pc).length ≤ 512 := by omega
 have lt := h.cells.lt
 have lb := h.db.lt
 have c7 : w.cell? ⟨E.t, 7, none⟩ = some (.pointer (some ⟨f, 0, none⟩)) := h.cells.cell 7
 obtain ⟨ms, hms⟩ : ∃ ms, ms = x.more E.pc := ⟨_, rfl⟩
 rw [← hms] at HMORE HCT HMS HIN hfrl ⊢
 obtain ⟨fr, hfr⟩ : ∃ fr, fr = x.fr := ⟨_, rfl⟩
 rw [← hfr] at HC HMS hfrl ⊢
 obtain ⟨fd, hfd⟩ : ∃ l, l = x.freed := ⟨_, rfl⟩
 rw [← hfd] at HSF HKS HLM HMORE
 obtain ⟨ls, hls⟩ : ∃ l, l = x.loose := ⟨_, rfl⟩
 rw [← hls] at HSL HKS HLM HMORE
 obtain ⟨pc, hpc⟩ : ∃ l, l = E.pc := ⟨_, rfl⟩
 rw [← hpc] at HSP HKS HLM HMORE
 obtain ⟨tx, htxe⟩ : ∃ l, l = E.txn := ⟨_, rfl⟩
 rw [← htxe] at HKS HMS HIN htx ⊢
 obtain ⟨t, ht⟩ : ∃ l, l = E.t := ⟨_, rfl⟩
 rw [← ht] at HKS lt c7 ⊢
 obtain ⟨b, hb⟩ : ∃ l, l = E.b := ⟨_, rfl⟩
 rw [← hb] at HKS lb
 clear h hpv hch hnd hin hlen hsr hle hlim hlv hfv hpw hms hfr hfd hls hpc htxe ht hb hE hm1
 go_enter Tryz.func110, Tryz.ntmps110
 go_wp2_with fail
 refine HC.out.mono ?_
 rintro e w1 ⟨f2, S2, rfl, hfl, hb1, hnew⟩
 have HFL := Lib.hid hfl
 have HB1 := Lib.hid hb1
 have HNEW := Lib.hid hnew
 clear hfl hb1 hnew c7
 obtain ⟨q10, q9, q0, p3, q1⟩ := HKS.out w1 HB1.out
 have lt1 : t < w1.heap.size := Nat.lt_of_lt_of_le lt HB1.out.size
 have lb1 : b < w1.heap.size := Nat.lt_of_lt_of_le lb HB1.out.size
 have HCC := Lib.hid fun (W : World) (hb : Below w.heap.size w W) (k : Nat) (hk : Bk W k 51 #[.slice Af fd.length cf, .slice Al ls.length cl, .slice Ap pc.length cp]) => concat3_any hk (HSF.out.below hb) (HSL.out.below hb) (HSP.out.below hb) HLM.out
 rw [HMORE.out] at HCC
 have hbX : Below w.heap.size w ((w1.alloc (.cells #[.slice Af fd.length cf, .slice Al ls.length cl, .slice Ap pc.length cp] 51)).drew) := (HB1.out.alloc HB1.out.size _).drew
 have HCX := Lib.hid (HCC.out _ hbX w1.heap.size (Bk.new w1 _ _).drew)
 have HFLX := Lib.hid (show FLO ((w1.alloc (.cells #[.slice Af fd.length cf, .slice Al ls.length cl, .slice Ap pc.length cp] 51)).drew) f2 S2 fr from HFL.out.off (((Off.refl [] w1).alloc _).drew) (by simp))
 have HBX := Lib.hid hbX
 have hszX : w1.heap.size < ((w1.alloc (.cells #[.slice Af fd.length cf, .slice Al ls.length cl, .slice Ap pc.length cp] 51)).drew).heap.size := by simp
 have HS2 := Lib.hid HFL.out.old
 clear hbX HCC
 go_wp2_with fail
 have HKT := Lib.hid (show ∀ W, Below w.heap.size w W → W.cell? ⟨t, 10, none⟩ = some (.slice Af fd.length cf) ∧ W.cell? ⟨t, 9, none⟩ = some (.slice Al ls.length cl) ∧ W.cell? ⟨t, 0, none⟩ = some (.pointer (some ⟨b, 0, none⟩)) ∧ W.cell? ⟨b, 3, none⟩ = some (.slice Ap pc.length cp) from fun W hW => ⟨(HKS.out W hW).1, (HKS.out W hW).2.1, (HKS.out W hW).2.2.1, (HKS.out W hW).2.2.2.1⟩)
 go_region_held3 (fun W => W.cell? ⟨t, 10, none⟩ = some (.slice Af fd.length cf) ∧ W.cell? ⟨t, 9, none⟩ = some (.slice Al ls.length cl) ∧ W.cell? ⟨t, 0, none⟩ = some (.pointer (some ⟨b, 0, none⟩)) ∧ W.cell? ⟨b, 3, none⟩ = some (.slice Ap pc.length cp)) (first | exact HKT.out _ HB1.out.drew | exact HKT.out _ (HB1.out.drew.alloc HB1.out.drew.size _) | exact HKT.out _ HBX.out | exact HKT.out _ (HBX.out.trans (HB2.out.mono HBX.out.size)) | trace_state) (first
   | (go_at_call 74; refine HCX.out.mono ?_; rintro e w2 ⟨hb2, A3, c3, rfl, hown2⟩; have HB2 := Lib.hid hb2; have HO2 := Lib.hid hown2; clear hb2 hown2)
   | fail)
 all_goals
   clear q10 q9 q0 p3 q1
   have hbw2 : Below w.heap.size w w2 := HBX.out.trans (HB2.out.mono HBX.out.size)
   have h0 : Hid (Spared w tx fr ms f2 A3 0 w2 S2) := ⟨by simpa [Fr.addAll] using HFLX.out.below HB2.out, hbw2, HNEW.out, Sl.of_own HO2.out, fun a ha hs => by
     have h1 := (World.ownsRow.lt HO2.out a.block (by
       obtain ⟨A', c', hv, -, -, -, -, hbl⟩ := own_slice HO2.out
       injection hv with hv1 hv2 hv3
       subst hv1 hv3
       exact (hbl a ha).2)).1
     have h2 := HS2.out _ hs
     omega⟩
   have hml : ms.length ≤ 512 := by omega
   have hcm3 : c3 ≤ 9223372036854775807 := by
     obtain ⟨A', c', hv, -, hcm, -⟩ := own_slice HO2.out
     injection hv with hv1 hv2 hv3
     subst hv3
     unfold maxLen at hcm
     omega
   clear hbw2
   go_wp2_with fail
   go_loopw [32] (fun i wr => ∃ j : Nat, i = .int .i64 j ∧ j ≤ ms.length ∧ Hid (∃ Sj, Spared w tx fr ms f2 A3 j wr Sj)) (fun i _ => ms.length - (intOf i).toNat)
   case atStart => exact ⟨0, rfl, Nat.zero_le _, Lib.hid ⟨S2, h0.out⟩⟩
   case round =>
     obtain ⟨j, rfl, hj, hI⟩ := hrel
     obtain ⟨Sj, hT⟩ := hI.out
     by_cases hlt : j < ms.length
     · have z1 : decide ((j : Int) < (ms.length : Int)) = true := decide_eq_true (by omega)
       obtain ⟨k1, k2, k3, k4⟩ := HMS.out j hlt
       obtain ⟨n, hn⟩ : ∃ n, n = ms[j] := ⟨_, rfl⟩
       have hnm : n ∈ ms := by rw [hn]; exact List.getElem_mem hlt
       rw [← hn] at k3 k4
       obtain ⟨b3, o3, rfl, hb3, hcell⟩ := ints_at hT.row j hlt
       rw [← hn] at hcell
       obtain ⟨-, -, -, -, r1⟩ := HKS.out wr hT.below
       have ltr : t < wr.heap.size := Nat.lt_of_lt_of_le lt hT.below.size
       have HCN := Lib.hid (HCT.out wr hT.below n hnm)
       have HAD := Lib.hid (fadd_ok hT.list k1 (by rw [k2]; omega) (tx, n) (HIN.out n hnm) k3)
       rw [← k4] at HAD
       have HT := Lib.hid hT
       clear hT hI h0 k1 k2 k3 k4 hn hnm
       go_wp2_with fail
       refine HCN.out.mono ?_
       rintro e w4 ⟨rfl, rfl⟩
       go_wp2_with fail
       refine HAD.out.mono ?_
       rintro e w5 ⟨rfl, S5, hl5, ho5, hf5⟩
       have HN := Lib.hid (show ∃ Sj, Spared w tx fr ms f2 (some ⟨b3, o3, none⟩) (j + 1) w5 Sj from
         ⟨S5, hl5, ((Off.of_below HT.out.below []).then ho5 (fun x hx => .inr (HT.out.new x hx))).below (Nat.le_refl _) (by simp), fun x hx => by
           rcases hf5 x hx with h | h
           · exact HT.out.new x h
           · have := HT.out.below.size; omega, HT.out.row.off ho5 HT.out.apart, fun a ha hs => by
           rcases hf5 _ hs with h | h
           · exact HT.out.apart a ha h
           · cases ha
             simp only at h
             omega⟩)
       clear hl5 ho5 hf5
       go_wp2_with fail
       go_roundw
       case rel => first | exact ⟨j + 1, by go_num, by omega, HN⟩ | ((repeat apply Exists.intro); exact ⟨⟨j + 1, by go_num, by omega, HN⟩, rfl⟩)
       case measure => simp [intOf]; omega
     · have z1 : decide ((j : Int) < (ms.length : Int)) = false := decide_eq_false (by omega)
       have hje : j = ms.length := by omega
       have HE := Lib.hid (show SparePost (Fr.addAll tx fr ms) w (.returned (.tuple #[.pointer (some ⟨f2, 0, none⟩), .int .i64 0])) wr from ⟨f2, Sj, rfl, by
         have := hT.list
         rw [hje, List.take_length] at this
         exact this, hT.below, hT.new⟩)
       clear hT hI h0
       go_wp2_with fail
       go_ret2
       exact HE.out
end Go.Proofs.YtjbcbnemdhbhbaaGreatDoor
