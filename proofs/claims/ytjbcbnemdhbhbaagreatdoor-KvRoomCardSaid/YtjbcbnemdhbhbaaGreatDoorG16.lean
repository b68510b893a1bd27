import Derived.Test.YtjbcbnemdhbhbaaGreatDoorG15
import Derived.Test.YtjbcbnemdhbhbaaGreatDoorG5
import Derived.Deep.QuietTactic
import Derived.BigQuiet
import Derived.Test.YtjbcbnemdhbhbaaGreatDoorG12
import Derived.Laws.OwnMore
namespace Go.Proofs.YtjbcbnemdhbhbaaGreatDoor
open Go.RowKit
set_option maxRecDepth 100000
set_option linter.unusedVariables false
set_option linter.unusedSimpArgs false
theorem Fresh.mono {w w' : World} {S S' : List Nat} (h : Fresh w' S S') (hs : w.heap.size ≤ w'.heap.size) : Fresh w S S' := (Fresh.refl w S).trans h hs
structure Store where
 T : TypeId
 v : Value
 At : World → List Nat → Book → Nat → Prop
 F : Prop
def Cl (B : Nat) (S : List Nat) (b : Nat) : Prop := B ≤ b ∧ b ∉ S
def Step (p : Store) (S : List Nat) (w w' : World) (σ' : Book) (k' : Nat) : Prop := ∃ S', p.At w' S' σ' k' ∧ Off S w w' ∧ Fresh w S S'
def Full (p : Store) (S : List Nat) (w w' : World) (e : Ending) (v : Ending) : Prop := p.F ∧ e = v ∧ ∃ σ', Step p S w w' σ' 0
structure Reads (p : Store) : Prop where
 off : ∀ {w w' : World} {S U : List Nat} {σ : Book} {k : Nat}, p.At w S σ k → Off U w w' → (∀ b ∈ S, b ∉ U) → p.At w' S σ k
 old : ∀ {w : World} {S : List Nat} {σ : Book} {k : Nat}, p.At w S σ k → ∀ b ∈ S, b < w.heap.size
 less : ∀ {w : World} {S : List Nat} {σ : Book} {k k' : Nat}, p.At w S σ k → k' ≤ k → p.At w S σ k'
 load : ∃ (f : Nat) (r : Value), (∀ W, Sem.run Tryz.prog (nilAhead 496 p.T p.v "Load") W = .ok (some false) W) ∧ (∀ W, Sem.run Tryz.prog (method 496 p.T p.v "Load") W = .ok (f, r) W) ∧ (∀ args W, Sem.run Tryz.prog (callFunc f args) W = .ok (.enter f args) W) ∧
   ∀ (w : World) (S : List Nat) (σ : Book) (k : Nat) (no : Nat) (x : Pgg), p.At w S σ k → σ no = some x → Calls Tryz.prog f #[r, .int .i64 no] w (fun e w' => Below w.heap.size w w' ∧ ∃ a b : Int, e = .returned (.tuple #[.agg #[.int .i64 x.kind, .int .i64 a, .int .i64 b, .string x.body], .int .i64 0]))
structure Serves (p : Store) : Prop extends Reads p where
 drop : ∃ (f : Nat) (r : Value), (∀ W, Sem.run Tryz.prog (nilAhead 496 p.T p.v "Drop") W = .ok (some false) W) ∧ (∀ W, Sem.run Tryz.prog (method 496 p.T p.v "Drop") W = .ok (f, r) W) ∧ (∀ args W, Sem.run Tryz.prog (callFunc f args) W = .ok (.enter f args) W) ∧
   ∀ (w : World) (S : List Nat) (σ : Book) (k : Nat) (no : Nat), p.At w S σ k → σ no ≠ none → Calls Tryz.prog f #[r, .int .i64 no] w (fun e w' => e = .returned (.int .i64 0) ∧ Step p S w w' (Tr.upd σ no none) k)
 make : ∃ (f : Nat) (r : Value), (∀ W, Sem.run Tryz.prog (nilAhead 496 p.T p.v "Make") W = .ok (some false) W) ∧ (∀ W, Sem.run Tryz.prog (method 496 p.T p.v "Make") W = .ok (f, r) W) ∧ (∀ args W, Sem.run Tryz.prog (callFunc f args) W = .ok (.enter f args) W) ∧
   ∀ (w : World) (S : List Nat) (σ : Book) (k : Nat) (x : Pgg), p.At w S σ k → (p.F ∨ 1 ≤ k) → 1 ≤ x.kind → x.kind ≤ 3 → x.body.size ≤ 488 → Calls Tryz.prog f #[r, .int .i64 x.kind, .string x.body] w (fun e w' =>
     (∃ n : Nat, e = .returned (.tuple #[.int .i64 n, .int .i64 0]) ∧ 1 ≤ n ∧ n < 512 ∧ σ n = none ∧ Step p S w w' (Tr.upd σ n (some x)) (k - 1)) ∨ Full p S w w' e (.returned (.tuple #[.int .i64 0, .int .i64 9])))
instance {p : Store} : Coe (Serves p) (Reads p) := ⟨fun h => h.toReads⟩
theorem Reads.below {p : Store} (hp : Reads p) {w w' : World} {S : List Nat} {σ : Book} {k : Nat} (h : p.At w S σ k) (hb : Below w.heap.size w w') : p.At w' S σ k := hp.off h (Off.of_below hb []) (fun _ _ => List.not_mem_nil)
theorem CRow.carry {w w' : World} {B : Nat} {S S' : List Nat} {r : Rw} {l : List Ce} (h : CRow w (Cl B S) r l) (ho : Off S w w') (hf : Fresh w S S') : CRow w' (Cl B S') r l :=
 h.keep ho.size (fun b hb hlt => ho.block b hlt hb.2) (fun b hb hlt => ⟨hb.1, fun hs => by rcases hf b hs with h1 | h1; exact hb.2 h1; omega⟩)
theorem COwn.off {w w' : World} {B : Nat} {S : List Nat} {v : Value} {l : List Ce} (h : COwn w B v l) (ho : Off S w w') (hS : ∀ b ∈ S, b < B) : COwn w' B v l :=
 Off.own ho h fun g hg hs => by have := (World.ownsRow.lt h g hg).1; have := hS g hs; omega
theorem COwn.mono {w : World} {B B' : Nat} {v : Value} {l : List Ce} (h : COwn w B v l) (hB : B' ≤ B) : COwn w B' v l := own_mono h hB
theorem COwn.apart {w : World} {B : Nat} {S : List Nat} {A : Option Addr} {n c : Nat} {l : List Ce} (h : COwn w B (.slice A n c) l) (hS : ∀ b ∈ S, b < B) : CRow w (Cl B S) ⟨A, n, c⟩ l := by
 obtain ⟨r, hr, hc⟩ := h.row
 obtain ⟨rA, rn, rc⟩ := r
 simp only at hr
 injection hr with e1 e2 e3
 subst e1 e2 e3
 exact RowOf.keep ceAt_stable hc (Nat.le_refl _) (fun _ _ _ => rfl) fun b hb _ => ⟨hb, fun hs => by have := hS b hs; omega⟩
set_option maxHeartbeats 8000000 in
theorem raw_ok {p : Store} (hp : Reads p) {w : World} {S : List Nat} {σ : Book} {k : Nat} (h : p.At w S σ k) (no : Nat) (leaf : Bool) (s : ByteArray) (hσ : σ no = some ⟨if leaf then 1 else 2, s⟩) :
   Calls Tryz.prog 179 #[.iface p.T p.v, .int .i64 no] w (fun e w' => e = .returned (.tuple #[.bool leaf, .string s, .int .i64 0]) ∧ Below w.heap.size w w') := by
 obtain ⟨f, r, -, hm, he, hl⟩ := hp.load
 have HL := Lib.hid (hl w S σ k no _ h hσ)
 clear hl h hσ hp
 cases leaf
 all_goals
   go_enter Tryz.func179, Tryz.ntmps179
   go_wp2_with fail
   refine HL.out.mono ?_
   rintro e w1 ⟨hb1, a, b, rfl⟩
   have HN1 := Lib.hid hb1
   clear hb1
   go_wp2_with fail
   go_quiet (fail)
   go_wp2_with fail
   go_ret3
   exact ⟨rfl, below_drewN (HN1.out.alloc HN1.out.size _) _⟩
def TellsLd (leaf : Bool) (l : List Ce) (w : World) (e : Ending) (w' : World) : Prop := Below w.heap.size w w' ∧ ∃ (A : Option Addr) (c : Nat), e = .returned (.tuple #[.bool leaf, .slice A l.length c, .int .i64 0]) ∧ COwn w' w.heap.size (.slice A l.length c) l
set_option maxHeartbeats 8000000 in
theorem load_ok {p : Store} (hp : Reads p) {w : World} {S : List Nat} {σ : Book} {k : Nat} (h : p.At w S σ k) (no : Nat) (leaf : Bool) (l : List Ce) (hr : Nd.right leaf l = true) (hs : Nd.sum leaf l ≤ 488) (hσ : σ no = some ⟨if leaf then 1 else 2, Nd.str leaf l⟩) :
   Calls Tryz.prog 187 #[.iface p.T p.v, .int .i64 no] w (TellsLd leaf l w) := by
 have HR := Lib.hid (raw_ok hp h no leaf _ hσ)
 have HD := Lib.hid fun (W : World) => decode_ok leaf l W hr hs
 obtain ⟨s, hs9⟩ : ∃ s, s = Nd.str leaf l := ⟨_, rfl⟩
 rw [← hs9] at HR HD
 clear hσ hs9 hp h hr hs
 go_enter Tryz.func187, Tryz.ntmps187
 go_wp2_with (first
   | (go_at_call 179; go_must (refine HR.out.mono ?_); rintro e w1 ⟨rfl, hb1⟩; have HN1 := Lib.hid hb1; clear hb1)
   | (go_at_call 232; go_must (refine (HD.out _).mono ?_); rintro e w2 ⟨hb2, A, c, rfl, hown⟩; have HN2 := Lib.hid (HN1.out.trans (hb2.mono HN1.out.size)); have HO2 := Lib.hid (COwn.mono hown HN1.out.size); clear hb2 hown)
   | fail)
 go_ret3
 exact ⟨HN2.out, A, c, rfl, HO2.out⟩
def PtAt (w : World) (S : Nat → Prop) (x : Pt) (vs : List Value) : Prop := ∃ r : Rw, vs = [.string x.key, .bool x.leaf, .slice r.A r.n r.c] ∧ CRow w S r x.cells
theorem ptAt_stable : Stable PtAt := fun hs hk hT d c h => by
 obtain ⟨r, h1, h2⟩ := h
 exact ⟨r, h1, h2.keep hs hk hT⟩
def PRow (w : World) (S : Nat → Prop) (r : Rw) (l : List Pt) : Prop := RowOf 3 PtAt w S r l
theorem PRow.keep {w w' : World} {S T : Nat → Prop} {r : Rw} {l : List Pt} (h : PRow w S r l) (hs : w.heap.size ≤ w'.heap.size) (hk : ∀ b, S b → b < w.heap.size → w'.heap[b]? = w.heap[b]?) (hT : ∀ b, S b → b < w.heap.size → T b) : PRow w' T r l :=
 RowOf.keep ptAt_stable h hs hk hT
theorem PRow.below {w w' : World} {S : Nat → Prop} {r : Rw} {l : List Pt} (h : PRow w S r l) (hb : Below w.heap.size w w') : PRow w' S r l :=
 h.keep hb.size (fun b _ hlt => hb.block b hlt) (fun _ h _ => h)
theorem PRow.carry {w w' : World} {B : Nat} {S S' : List Nat} {r : Rw} {l : List Pt} (h : PRow w (Cl B S) r l) (ho : Off S w w') (hf : Fresh w S S') : PRow w' (Cl B S') r l :=
 h.keep ho.size (fun b hb hlt => ho.block b hlt hb.2) (fun b hb hlt => ⟨hb.1, fun hs => by rcases hf b hs with h1 | h1; exact hb.2 h1; omega⟩)
theorem PRow.at {w : World} {S : Nat → Prop} {r : Rw} {l : List Pt} (h : PRow w S r l) (i : Nat) (hi : i < l.length) : ∃ b o, r.A = some ⟨b, o, none⟩ ∧ (S b ∧ b < w.heap.size) ∧ ∃ q : Rw, w.cell? ⟨b, o + i * 3, none⟩ = some (.string l[i].key) ∧
   w.cell? ⟨b, o + i * 3 + 1, none⟩ = some (.bool l[i].leaf) ∧ w.cell? ⟨b, o + i * 3 + 2, none⟩ = some (.slice q.A q.n q.c) ∧ CRow w S q l[i].cells := by
 obtain ⟨h1, h2, h3, h4⟩ := h
 obtain ⟨b, o, c, q1, q2, q3, q4, q5⟩ := h4 i l[i] (List.getElem?_eq_getElem hi)
 obtain ⟨q, rfl, hq⟩ := q5
 exact ⟨b, o, q1, q2, q, q4 0 _ rfl, q4 1 _ rfl, q4 2 _ rfl, hq⟩
theorem PRow.lit {w : World} {S : Nat → Prop} {blk : Nat} {x : Pt} {q : Rw} (h : Bk w blk 319 #[.string x.key, .bool x.leaf, .slice q.A q.n q.c]) (hS : S blk) (hq : CRow w S q x.cells) : PRow w S ⟨some ⟨blk, 0, none⟩, 1, 1⟩ [x] := by
 refine ⟨rfl, Nat.le_refl _, by unfold maxLen; show 1 ≤ _; omega, fun i d hd => ?_⟩
 have hi : i < 1 := (List.getElem?_eq_some_iff.1 hd).1
 obtain rfl : i = 0 := by omega
 obtain rfl : x = d := by simpa using hd
 refine ⟨blk, 0, [.string x.key, .bool x.leaf, .slice q.A q.n q.c], rfl, ⟨hS, h.lt⟩, rfl, fun j u hu => ?_, q, rfl, hq⟩
 have e : (0 + 0 * 3 + j) = j := by omega
 rw [e, h.cell j, ← Array.getElem?_toList]
 exact hu
def TellsP1 (key : ByteArray) (leaf : Bool) (r : Rw) (w : World) (e : Ending) (w' : World) : Prop := Below w.heap.size w w' ∧ ∃ g : Nat, w.heap.size ≤ g ∧ e = .returned (.slice (some ⟨g, 0, none⟩) 1 1) ∧ Bk w' g 319 #[.string key, .bool leaf, .slice r.A r.n r.c]
def TellsPs (B : Nat) (S : List Nat) (ps : List Pt) (w : World) (e : Ending) (w' : World) : Prop := Below w.heap.size w w' ∧ ∃ r : Rw, e = .returned (.slice r.A r.n r.c) ∧ PRow w' (Cl B S) r ps
theorem sum_grow (leaf : Bool) (l : List Ce) (j : Nat) (h : j < l.length) : ((l.take (j + 1)).map (Nd.size leaf)).sum = ((l.take j).map (Nd.size leaf)).sum + Nd.size leaf l[j] := by
 rw [List.take_succ_eq_append_getElem h, List.map_append, List.sum_append]; simp
set_option maxHeartbeats 8000000 in
theorem parts_one (key : ByteArray) (leaf : Bool) (r : Rw) (l : List Ce) (S : Nat → Prop) (w : World) (h : CRow w S r l) (hr : ∀ c ∈ l, Nd.rightOne leaf c = true) (hs : Nd.sum leaf l ≤ 488) :
   Calls Tryz.prog 162 #[.string key, .bool leaf, .slice r.A r.n r.c] w (TellsP1 key leaf r w) := by
 obtain ⟨A, n, cap⟩ := r
 have hr0 := h
 obtain ⟨h1, h2, h3, -⟩ := hr0
 simp only at h1 h2 h3 ⊢
 subst h1
 have hll : l.length ≤ 10000 := by have := Nd.sum_ge leaf l; omega
 obtain ⟨T, hT⟩ : ∃ T, T = Nd.sum leaf l := ⟨_, rfl⟩
 have HT := Lib.hid hT
 have hTb : T ≤ 488 := by omega
 have HL := Lib.hid hr
 have HR := Lib.hid h
 have hcm : cap ≤ 9223372036854775807 := by unfold maxLen at h3; omega
 have zT : decide ((T : Int) ≤ 488) = true := decide_eq_true (by omega)
 clear h h3 hr hs hT
 go_enter Tryz.func162, Tryz.ntmps162
 go_wp2_with fail
 go_loopw [7, 15] (fun u i wr => ∃ (j y : Nat), i = .int .i64 j ∧ u = .int .i64 y ∧ j ≤ l.length ∧ y ≤ 2 + 223 * j ∧ Hid (y = 2 + ((l.take j).map (Nd.size leaf)).sum) ∧ Below w.heap.size w wr) (fun _ i _ => l.length - (intOf i).toNat)
 case atStart => exact ⟨0, 2, rfl, rfl, Nat.zero_le _, by omega, Lib.hid (by simp), Below.refl _ _⟩
 case round =>
   obtain ⟨j, y, rfl, rfl, hj, hy, HY, hbw⟩ := hrel
   have HBW := Lib.hid hbw
   by_cases hlt : j < l.length
   · have z1 : decide ((j : Int) < (l.length : Int)) = true := decide_eq_true (by omega)
     obtain ⟨b, o, hA, hS, q0, q1, q2, q3, q4⟩ := (HR.out.below hbw).at j hlt
     simp only at hA
     subst hA
     have hbl := hS.2
     have hone := HL.out _ (List.getElem_mem hlt)
     have hsz := (Nd.size_le hone).2
     have HC := Lib.hid fun (W : World) => tbytes_any leaf l[j] W hone
     have HTT := Lib.hid (sum_grow leaf l j hlt)
     obtain ⟨z, hz⟩ : ∃ z, z = Nd.size leaf l[j] := ⟨_, rfl⟩
     rw [← hz] at HC HTT hsz
     obtain ⟨x, hx⟩ : ∃ x, x = l[j] := ⟨_, rfl⟩
     rw [← hx] at HC q0 q1 q2 q3 q4
     clear hS hone hz hx hbw
     go_wp2_with (first
       | (go_at_call 219; go_must (refine (HC.out _).mono ?_); rintro e w2 ⟨rfl, hb2⟩; have HB2 := Lib.hid (HBW.out.trans ((five_after hb2).2.2.2.2.2.2.1.mono HBW.out.size)); clear hb2)
       | fail)
     go_roundw
     case rel => first | exact ⟨j + 1, y + z, by go_num, by go_num, by omega, by omega, Lib.hid (by rw [HTT.out, HY.out]; omega), HB2.out⟩ | ((repeat apply Exists.intro); exact ⟨⟨j + 1, y + z, by go_num, by go_num, by omega, by omega, Lib.hid (by rw [HTT.out, HY.out]; omega), HB2.out⟩, rfl⟩)
     case measure => simp [intOf]; omega
   · have z1 : decide ((j : Int) < (l.length : Int)) = false := decide_eq_false (by omega)
     obtain rfl : j = l.length := by omega
     have hyT : y = T := by rw [HY.out, HT.out, List.take_of_length_le (Nat.le_refl _)]; rfl
     subst hyT
     clear hbw HY hy
     go_wp2_with fail
     go_ret
     have hb2 : Below w.heap.size w (wr.alloc (.cells #[.string key, .bool leaf, .slice A l.length cap] 319)) := HBW.out.alloc HBW.out.size _
     have hsz := HBW.out.size
     have hk := Bk.new wr 319 #[.string key, .bool leaf, .slice A l.length cap]
     exact ⟨hb2, wr.heap.size, hsz, rfl, hk⟩
theorem CRow.drop {w : World} {S : Nat → Prop} {b o n cap : Nat} {l : List Ce} (h : CRow w S ⟨some ⟨b, o, none⟩, n, cap⟩ l) (c : Nat) (hc : c ≤ l.length) : CRow w S ⟨some ⟨b, o + c * 5, none⟩, n - c, cap - c⟩ (l.drop c) := by
 obtain ⟨h1, h2, h3, h4⟩ := h
 simp only at h1 h2 h3
 refine ⟨by show n - c = _; rw [List.length_drop, h1], by show n - c ≤ cap - c; omega, by show cap - c ≤ maxLen; omega, fun i d hd => ?_⟩
 rw [List.getElem?_drop] at hd
 obtain ⟨b', o', x, q1, q2, q3, q4, q5⟩ := h4 (c + i) d hd
 simp only [Option.some.injEq, Addr.mk.injEq, and_true] at q1
 obtain ⟨rfl, rfl⟩ := q1
 refine ⟨b, o + c * 5, x, rfl, q2, q3, fun j u hu => ?_, q5⟩
 have := q4 j u hu
 rwa [show o + (c + i) * 5 + j = o + c * 5 + i * 5 + j by omega] at this
theorem CRow.take {w : World} {S : Nat → Prop} {A : Option Addr} {n cap : Nat} {l : List Ce} (h : CRow w S ⟨A, n, cap⟩ l) (c : Nat) (hc : c ≤ l.length) : CRow w S ⟨A, c, cap⟩ (l.take c) := by
 obtain ⟨h1, h2, h3, h4⟩ := h
 simp only at h1 h2 h3
 refine ⟨by show c = _; rw [List.length_take]; omega, by show c ≤ cap; omega, h3, fun i d hd => ?_⟩
 have hi : i < (l.take c).length := (List.getElem?_eq_some_iff.1 hd).1
 rw [List.length_take] at hi
 rw [List.getElem?_take, if_pos (by omega)] at hd
 exact h4 i d hd
theorem COwn.full {w : World} {B : Nat} {A : Option Addr} {n c : Nat} {l : List Ce} (h : COwn w B (.slice A n c) l) (h0 : 0 < l.length) : ∃ g, A = some ⟨g, 0, none⟩ ∧ B ≤ g ∧ g < w.heap.size ∧ n = l.length ∧ n ≤ c ∧ c ≤ maxLen := by
 rcases h.2 with ⟨-, h2⟩ | ⟨g, cap, cur, h1, h2, h3, h4, h5, -⟩
 · omega
 · injection h1 with e1 e2 e3
   subst e1 e2 e3
   exact ⟨g, rfl, h2, lt_of_block h3, rfl, h4, h5⟩
theorem COwn.rekey {w : World} {B g c n : Nat} {l : List Ce} (h : COwn w B (.slice (some ⟨g, 0, none⟩) n c) l) (h0 : 0 < l.length) (key : ByteArray) : COwn (w.setCell ⟨g, 0, none⟩ (.string key)) B (.slice (some ⟨g, 0, none⟩) n c) (Nd.first false key l) := by
 obtain ⟨g', e1, -, -, hn, -⟩ := h.full h0
 subst hn
 have h1 := (World.ownsRow.stored h 0 (.string key)).1
 unfold COwn
 cases l with
 | nil => simp at h0
 | cons x t =>
   have e : (flatC (x :: t)).set 0 (.string key) = flatC (Nd.first false key (x :: t)) := by
     rw [show x :: t = [x] ++ t from rfl, flatC_app, flatC_one]
     show _ = flatC ([{ x with key := key }] ++ t)
     rw [flatC_app, flatC_one]
     rfl
   rw [e] at h1
   rw [Nd.first_len]
   exact h1
theorem COwn.key0 {w : World} {B g c n : Nat} {l : List Ce} (h : COwn w B (.slice (some ⟨g, 0, none⟩) n c) l) (h0 : 0 < l.length) : w.cell? ⟨g, 0, none⟩ = some (.string (l[0]'h0).key) ∧ w.frozen? ⟨g, 0, none⟩ = false := by
 obtain ⟨g', e1, -, -, hn, -⟩ := h.full h0
 subst hn
 refine ⟨?_, World.ownsRow.frozenAt h 0⟩
 obtain ⟨⟨rA, rn, rc⟩, hr, hc⟩ := h.row
 simp only at hr
 injection hr with e1 e2 e3
 subst e1 e2 e3
 obtain ⟨b, o, hA, -, q0, -⟩ := hc.at 0 h0
 injection hA with hA
 injection hA with e1 e2
 subst e1 e2
 exact q0
theorem row_of_own {α : Type} {k : Nat} {At : World → (Nat → Prop) → α → List Value → Prop} {w : World} {B E : Nat} {T : Nat → Prop} {v : Value} {ds : List α} {css : List (List Value)} (h3 : w.ownsRow B E k v ds.length css.flatten) (h1 : css.length = ds.length) (h2 : ∀ c ∈ css, c.length = k)
   (h4 : ∀ (i : Nat) (d : α) (c : List Value), ds[i]? = some d → css[i]? = some c → At w T d c) (hT : ∀ b, B ≤ b → b < w.heap.size → T b) : ∃ r : Rw, v = .slice r.A r.n r.c ∧ RowOf k At w T r ds := by
 obtain ⟨hl, hr⟩ := h3
 rcases hr with ⟨rfl, hn⟩ | ⟨g, cap, cur, rfl, hb, hh, hc, hm, hcs, htk⟩
 · obtain rfl : ds = [] := List.eq_nil_of_length_eq_zero hn
   exact ⟨Rw.none, rfl, RowOf.nil _ _⟩
 · refine ⟨⟨some ⟨g, 0, none⟩, ds.length, cap⟩, rfl, rfl, by show ds.length ≤ cap; omega, hm, fun i d hd => ?_⟩
   have hi : i < ds.length := (List.getElem?_eq_some_iff.1 hd).1
   obtain ⟨c, hci⟩ : ∃ c, css[i]? = some c := ⟨css[i]'(by omega), List.getElem?_eq_getElem (by omega)⟩
   have hck := h2 c (List.mem_of_getElem? hci)
   refine ⟨g, 0, c, rfl, ⟨hT g hb (lt_of_block hh), lt_of_block hh⟩, hck, fun j u hu => ?_, h4 i d c hd hci⟩
   have hj : j < k := by rw [← hck]; exact (List.getElem?_eq_some_iff.1 hu).1
   rw [cell_of_row w g _ cur _ (0, 0) hh, Nat.zero_add]
   have hf := flatten_get css h2 i c hci j hj
   rw [hu] at hf
   have hlt : i * k + j < css.flatten.length := (List.getElem?_eq_some_iff.1 hf).1
   rw [← htk, List.getElem?_take_of_lt (by omega)] at hf
   rw [← Array.getElem?_toList]
   exact hf
theorem CRow.sub {w : World} {S T : Nat → Prop} {r : Rw} {l : List Ce} (h : CRow w S r l) (hT : ∀ b, S b → b < w.heap.size → T b) : CRow w T r l := h.keep (Nat.le_refl _) (fun _ _ _ => rfl) hT
theorem COwn.as {w : World} {B : Nat} {A : Option Addr} {n c : Nat} {l : List Ce} (h : COwn w B (.slice A n c) l) : CRow w (fun b => B ≤ b) ⟨A, n, c⟩ l := by
 obtain ⟨⟨rA, rn, rc⟩, hr, hc⟩ := h.row
 simp only at hr
 injection hr with e1 e2 e3
 subst e1 e2 e3
 exact hc
theorem info_part : (Tryz.prog.info? 319).map (fun i => (i.zero, i.size, i.bytes)) = some (some (.agg #[.string ByteArray.empty, .bool false, .slice none 0 0]), 3, 48) := by kernel_rfl
theorem own_part {w : World} {g : Nat} {vs : List Value} (h : Bk w g 319 vs.toArray) (hl : vs.length = 3) {B : Nat} (hB : B ≤ g) : w.ownsRow B 319 3 (.slice (some ⟨g, 0, none⟩) 1 1) 1 vs :=
 ⟨by rw [hl], .inr ⟨g, 1, vs.toArray, rfl, hB, h, Nat.le_refl _, by unfold maxLen; omega, by simp [hl], by simp [List.take_of_length_le, hl]⟩⟩
theorem prow_two {w : World} {B : Nat} {T : Nat → Prop} {v : Value} {x y : Pt} {r q : Rw} (h : w.ownsRow B 319 3 v 2 ([.string x.key, .bool x.leaf, .slice r.A r.n r.c] ++ [.string y.key, .bool y.leaf, .slice q.A q.n q.c])) (hr : CRow w T r x.cells) (hq : CRow w T q y.cells) (hT : ∀ b, B ≤ b → b < w.heap.size → T b) :
   ∃ r : Rw, v = .slice r.A r.n r.c ∧ PRow w T r [x, y] :=
 row_of_own (α := Pt) (k := 3) (At := PtAt) (T := T) (ds := [x, y]) (css := [[.string x.key, .bool x.leaf, .slice r.A r.n r.c], [.string y.key, .bool y.leaf, .slice q.A q.n q.c]]) h rfl (fun c hc => by
   rcases List.mem_cons.1 hc with rfl | hc
   · rfl
   · obtain rfl := List.mem_singleton.1 hc; rfl) (fun i d c hd hc => by
   match i with
   | 0 =>
     simp only [List.getElem?_cons_zero, Option.some.injEq] at hd hc
     subst hd hc
     exact ⟨r, rfl, hr⟩
   | 1 =>
     simp only [List.getElem?_cons_succ, List.getElem?_cons_zero, Option.some.injEq] at hd hc
     subst hd hc
     exact ⟨q, rfl, hq⟩
   | i + 2 => simp at hd) hT
set_option maxHeartbeats 8000000 in
theorem parts_two (key : ByteArray) (leaf : Bool) (b o n cap : Nat) (l : List Ce) (B : Nat) (S : List Nat) (w : World) (h : CRow w (Cl B S) ⟨some ⟨b, o, none⟩, n, cap⟩ l) (hS : ∀ b ∈ S, b < w.heap.size) (hB : B ≤ w.heap.size) (hr : ∀ c ∈ l, Nd.rightOne leaf c = true) (hs : 488 < Nd.sum leaf l) (hs2 : Nd.sum leaf l ≤ 750) :
   Calls Tryz.prog 162 #[.string key, .bool leaf, .slice (some ⟨b, o, none⟩) n cap] w (TellsPs B S (Tr.partsL key leaf l) w) := by
 obtain ⟨i0, hi, iz0, iz1, iz2⟩ := info_parts info_part
 obtain ⟨c1, c2, c3, c4⟩ := Nd.cut_fits leaf l 223 (fun c hc => (Nd.size_le (hr c hc)).2) (Nat.le_refl _) hs hs2
 have hr0 := h
 obtain ⟨h1, h2, h3, -⟩ := hr0
 simp only at h1 h2 h3
 subst h1
 have hll : l.length ≤ 10000 := by have := Nd.sum_ge leaf l; omega
 have hsm : Small l := ⟨hll, fun c hc => by have := Nd.one_small (hr c hc); omega⟩
 obtain ⟨T, hT⟩ : ∃ T, T = Nd.sum leaf l := ⟨_, rfl⟩
 have HT := Lib.hid hT
 have hTb : T ≤ 750 := by omega
 have hTl : 488 < T := by omega
 have HH := Lib.hid fun (W : World) (hb : Below w.heap.size w W) => halve_ok leaf ⟨some ⟨b, o, none⟩, l.length, cap⟩ l (Cl B S) W (h.below hb) (by omega) hsm
 obtain ⟨c, hc⟩ : ∃ c, c = Nd.cut leaf l := ⟨_, rfl⟩
 have HC := Lib.hid hc
 rw [← hc] at c1 c2 c3 c4 HH
 have HL := Lib.hid hr
 have HR := Lib.hid h
 have HS := Lib.hid hS
 have hcap : c < cap := by omega
 have HD := Lib.hid fun (W : World) (hb : Below w.heap.size w W) => (show Calls Tryz.prog 221 #[.slice (some ⟨b, o + c * 5, none⟩) (l.length - c) (cap - c)] W (TellsR (l.drop c) W) from
   clone_any ⟨some ⟨b, o + c * 5, none⟩, l.length - c, cap - c⟩ (l.drop c) (Cl B S) W ((h.below hb).drop c (by omega)) (by rw [List.length_drop]; omega) (by rw [List.length_drop]; omega))
 have HE := Lib.hid fun (W : World) (hb : Below w.heap.size w W) => (show Calls Tryz.prog 221 #[.slice (some ⟨b, o, none⟩) c cap] W (TellsR (l.take c) W) from
   clone_any ⟨some ⟨b, o, none⟩, c, cap⟩ (l.take c) (Cl B S) W ((h.below hb).take c (by omega)) (by rw [List.length_take]; omega) (by rw [List.length_take]; omega))
 have hdl : (l.drop c).length = l.length - c := List.length_drop
 have htl : (l.take c).length = c := by rw [List.length_take]; omega
 obtain ⟨d, hd⟩ : ∃ d, d = l.drop c := ⟨_, rfl⟩
 obtain ⟨t, ht⟩ : ∃ t, t = l.take c := ⟨_, rfl⟩
 have D := Lib.hid hd
 have T' := Lib.hid ht
 rw [← hd] at hdl HD c4
 rw [← ht] at htl HE c3
 have hd0 : 0 < d.length := by omega
 have hd1 : d.length ≤ 10000 := by omega
 have ht0 : 0 < t.length := by omega
 have hRd := Lib.hid (show ∀ c ∈ d, Nd.rightOne leaf c = true from fun x hx => hr x (by rw [hd] at hx; exact List.mem_of_mem_drop hx))
 have hRt := Lib.hid (show ∀ c ∈ t, Nd.rightOne leaf c = true from fun x hx => hr x (by rw [ht] at hx; exact List.mem_of_mem_take hx))
 have C3 := Lib.hid c3
 have C4 := Lib.hid c4
 have TL := Lib.hid htl
 have hcm : cap ≤ 9223372036854775807 := by unfold maxLen at h3; omega
 have zT : decide ((T : Int) ≤ 488) = false := decide_eq_false (by omega)
 clear h h3 hr hs hT hS hs2 hsm c3 c4 hc hd ht hdl htl
 go_enter Tryz.func162, Tryz.ntmps162
 go_wp2_with fail
 go_loopw [7, 15] (fun u i wr => ∃ (j y : Nat), i = .int .i64 j ∧ u = .int .i64 y ∧ j ≤ l.length ∧ y ≤ 2 + 223 * j ∧ Hid (y = 2 + ((l.take j).map (Nd.size leaf)).sum) ∧ Below w.heap.size w wr) (fun _ i _ => l.length - (intOf i).toNat)
 case atStart => exact ⟨0, 2, rfl, rfl, Nat.zero_le _, by omega, Lib.hid (by simp), Below.refl _ _⟩
 case round =>
   obtain ⟨j, y, rfl, rfl, hj, hy, HY, hbw⟩ := hrel
   have HBW := Lib.hid hbw
   by_cases hlt : j < l.length
   · have z1 : decide ((j : Int) < (l.length : Int)) = true := decide_eq_true (by omega)
     obtain ⟨b', o', hA, hS, q0, q1, q2, q3, q4⟩ := (HR.out.below hbw).at j hlt
     injection hA with hA
     injection hA with e1 e2
     subst e1 e2
     have hbl := hS.2
     have hone := HL.out _ (List.getElem_mem hlt)
     have hsz := (Nd.size_le hone).2
     have HC := Lib.hid fun (W : World) => tbytes_any leaf l[j] W hone
     have HTT := Lib.hid (sum_grow leaf l j hlt)
     obtain ⟨z, hz⟩ : ∃ z, z = Nd.size leaf l[j] := ⟨_, rfl⟩
     rw [← hz] at HC HTT hsz
     obtain ⟨x, hx⟩ : ∃ x, x = l[j] := ⟨_, rfl⟩
     rw [← hx] at HC q0 q1 q2 q3 q4
     clear hS hone hz hx hbw
     go_wp2_with (first
       | (go_at_call 219; go_must (refine (HC.out _).mono ?_); rintro e w2 ⟨rfl, hb2⟩; have HB2 := Lib.hid (HBW.out.trans ((five_after hb2).2.2.2.2.2.2.1.mono HBW.out.size)); clear hb2)
       | fail)
     go_roundw
     case rel => first | exact ⟨j + 1, y + z, by go_num, by go_num, by omega, by omega, Lib.hid (by rw [HTT.out, HY.out]; omega), HB2.out⟩ | ((repeat apply Exists.intro); exact ⟨⟨j + 1, y + z, by go_num, by go_num, by omega, by omega, Lib.hid (by rw [HTT.out, HY.out]; omega), HB2.out⟩, rfl⟩)
     case measure => simp [intOf]; omega
   · have z1 : decide ((j : Int) < (l.length : Int)) = false := decide_eq_false (by omega)
     obtain rfl : j = l.length := by omega
     have hyT : y = T := by rw [HY.out, HT.out, List.take_of_length_le (Nat.le_refl _)]; rfl
     subst hyT
     clear hbw HY hy
     go_wp2_with (first
       | (go_at_call 220; go_must (refine (HH.out _ HBW.out).mono ?_); rintro e w2 ⟨rfl, hb2⟩; have HB2 := Lib.hid (HBW.out.trans (hb2.mono HBW.out.size)); clear hb2)
       | fail)
     refine (HD.out _ HB2.out).mono ?_
     rintro e w3 ⟨hb3, A3, c5, rfl, hown3⟩
     obtain ⟨g, rfl, hg1, hg2, -, hg3, hg4⟩ := hown3.full hd0
     have HB3 := Lib.hid (HB2.out.trans (hb3.mono HB2.out.size))
     have HO3 := Lib.hid (hown3.mono HB2.out.size)
     obtain ⟨hq0, hf0⟩ := hown3.key0 hd0
     obtain ⟨ky, hky⟩ : ∃ ky, ky = (d[0]'hd0).key := ⟨_, rfl⟩
     rw [← hky] at hq0
     have HKY := Lib.hid hky
     clear hb3 hown3 hky
     have hgs : w.heap.size ≤ g := Nat.le_trans HB2.out.size hg1
     have hways : ∃ wx, Below w.heap.size w wx ∧ COwn wx w.heap.size (.slice (some ⟨g, 0, none⟩) d.length c5) (Nd.first leaf ⟨#[]⟩ d) ∧ wx = (if leaf then w3 else w3.setCell ⟨g, 0, none⟩ (.string ⟨#[]⟩)) := by
       cases leaf
       · exact ⟨_, HB3.out.setCell (p := ⟨g, 0, none⟩) hgs _, HO3.out.rekey hd0 _, rfl⟩
       · exact ⟨_, HB3.out, HO3.out, rfl⟩
     obtain ⟨wx, hbx, hox, hwx⟩ := hways
     obtain ⟨d2, hd2⟩ : ∃ d2, d2 = Nd.first leaf ⟨#[]⟩ d := ⟨_, rfl⟩
     have hd2l : d2.length = d.length := by rw [hd2, Nd.first_len]
     have hs2 : Nd.sum leaf d2 ≤ 488 := by rw [hd2]; exact Nat.le_trans (Nd.sum_first_nil _ _) C4.out
     have hr2 : ∀ c ∈ d2, Nd.rightOne leaf c = true := by
       rw [hd2]
       intro x hx
       unfold Nd.first at hx
       cases leaf
       · cases hdd : d with
         | nil => rw [hdd] at hx; simp at hx
         | cons y u =>
           rw [hdd] at hx
           simp only [Bool.false_eq_true, if_false, List.mem_cons] at hx
           rcases hx with rfl | hx
           · have h9 := hRd.out y (by rw [hdd]; simp)
             simp only [Nd.rightOne, Nd.rightBranch, Bool.false_eq_true, if_false, Bool.and_eq_true, decide_eq_true_eq, beq_iff_eq] at h9 ⊢
             exact ⟨⟨⟨⟨⟨by show (0 : Nat) ≤ 120; omega, h9.1.1.1.1.2⟩, h9.1.1.1.2⟩, h9.1.1.2⟩, h9.1.2⟩, h9.2⟩
           · exact hRd.out x (by rw [hdd]; simp [hx])
       · exact hRd.out x hx
     rw [← hd2] at hox
     rw [← hd2l] at hox
     have HPL := Lib.hid (show Tr.partsL key leaf l = [⟨key, leaf, t⟩, ⟨ky, leaf, d2⟩] by
       unfold Tr.partsL
       rw [if_neg (by rw [← HT.out]; omega), ← HC.out, ← D.out, ← T'.out, ← hd2]
       have e : (l.getD c Ce.zero).key = ky := by
         have hcl : c < l.length := by omega
         rw [HKY.out, show l.getD c Ce.zero = l[c]'hcl by simp [List.getD, List.getElem?_eq_getElem hcl]]
         congr 1
         have h9 : d[0]'hd0 = (l.drop c)[0]'(by rw [List.length_drop]; omega) := by simp [D.out]
         rw [h9, List.getElem_drop]
         simp
       rw [e])
     have HD2 := Lib.hid hd2
     have HBX := Lib.hid hbx
     have HOX := Lib.hid hox
     have HWX := Lib.hid hwx
     have HR2 := Lib.hid hr2
     have HS2 := Lib.hid hs2
     have HDL := Lib.hid hd2l
     clear hd2 hbx hox hwx hr2 hs2 hd2l hg1
     cases leaf
     all_goals
       go_wp2_with fail
       have hww := HWX.out
       simp only [Bool.false_eq_true, if_false, if_true] at hww
       rw [← hww]
       clear hww
       refine (HE.out _ HBX.out).mono ?_
       rintro e w4 ⟨hb4, A4, c6, rfl, hown4⟩
       obtain ⟨g4, rfl, hg4a, hg4b, -, hg4c, hg4d⟩ := hown4.full ht0
       have HB4 := Lib.hid (HBX.out.trans (hb4.mono HBX.out.size))
       have HO4 := Lib.hid (hown4.mono HBX.out.size)
       have HX4 := Lib.hid (HOX.out.below hb4)
       clear hb4 hown4 hg4a
       have HP1 := Lib.hid (parts_one key _ ⟨some ⟨g4, 0, none⟩, t.length, c6⟩ t _ w4 HO4.out.as hRt.out C3.out)
       go_wp2_with fail
       refine HP1.out.mono ?_
       rintro e w5 ⟨hb5, g5, hg5, rfl, hk5⟩
       have HB5 := Lib.hid (HB4.out.trans (hb5.mono HB4.out.size))
       have HO5 := Lib.hid (HO4.out.below hb5)
       have HX5 := Lib.hid (HX4.out.below hb5)
       have HK5 := Lib.hid hk5
       have hg5' : w.heap.size ≤ g5 := Nat.le_trans HB4.out.size hg5
       have HP2 := Lib.hid (parts_one ky _ ⟨some ⟨g, 0, none⟩, d2.length, c5⟩ d2 _ w5 HX5.out.as HR2.out HS2.out)
       rw [HDL.out] at HP2
       clear hb5 hk5 HP1 hg5
       go_wp2_with fail
       refine HP2.out.mono ?_
       rintro e w6 ⟨hb6, g6, hg6, rfl, hk6⟩
       have HB6 := Lib.hid (HB5.out.trans (hb6.mono HB5.out.size))
       have HO6 := Lib.hid (HO5.out.below hb6)
       have HX6 := Lib.hid (HX5.out.below hb6)
       have HK6 := Lib.hid hk6
       have hg6' : w.heap.size ≤ g6 := Nat.le_trans HB5.out.size hg6
       have HG5 := Lib.hid (bk_below HK5.out hb6)
       have HQ5 := Lib.hid (own_part (bk_below HK5.out hb6) rfl hg5')
       have HN6 := Lib.hid (show ∀ (j : Nat) (u : Value), [Value.string ky, .bool _, .slice (some ⟨g, 0, none⟩) d.length c5][j]? = some u → w6.cell? ((⟨g6, 0, none⟩ : Addr).add j) = some u from fun j u hu => by
         rw [addr_add, Nat.zero_add, hk6.cell j, ← Array.getElem?_toList]; exact hu)
       clear hb6 hk6 HP2 hg6
       have hb6s := HB6.out.size
       go_wp2_with (at_builtin; refine wpList_append_own _ rfl (.tmp 54) (.tmp 58) 250 rfl w.heap.size 319 i0 _ 3 48 Tryz.underlying250 hi iz0 iz1 iz2 rfl (by omega) (.slice (some ⟨g5, 0, none⟩) 1 1) 1 _ rfl HQ5.out ⟨g6, 0, none⟩ 1 1 _ rfl rfl HN6.out (by simp [Value.oneCell']) (by unfold maxLen; omega) (by omega) hb6s ?_; intro v' w7 hown7 hgrow7 hiff)
       have hB7 : Below w.heap.size w w7 := ((Off.of_below HB6.out []).grown hgrow7 (fun k hk => .inr (by
         have : g5 = k := by simpa [Value.ownBlock] using hk
         omega))).below (Nat.le_refl _) (by simp)
       have hO7 : COwn w7 w.heap.size (.slice (some ⟨g4, 0, none⟩) t.length c6) t := World.ownsRow.kept HO6.out hgrow7 (.inr (own_ne HO6.out HG5.out (by decide)))
       have hX7 : COwn w7 w.heap.size (.slice (some ⟨g, 0, none⟩) d2.length c5) d2 := World.ownsRow.kept HX6.out hgrow7 (.inr (own_ne HX6.out HG5.out (by decide)))
       rw [HDL.out] at hX7
       have hT : ∀ b, w.heap.size ≤ b → b < w7.heap.size → Cl B S b := fun b h1 _ => ⟨by omega, fun hh => by have := HS.out b hh; omega⟩
       obtain ⟨⟨rA, rn, rc⟩, hrv, hpr⟩ := prow_two (x := ⟨key, _, t⟩) (y := ⟨ky, _, d2⟩) (r := ⟨some ⟨g4, 0, none⟩, t.length, c6⟩) (q := ⟨some ⟨g, 0, none⟩, d.length, c5⟩) hown7 (hO7.as.sub hT) (hX7.as.sub hT) hT
       simp only at hrv
       subst hrv
       clear hown7 hgrow7 hiff
       go_ret
       exact ⟨hB7, ⟨rA, rn, rc⟩, rfl, by rw [HPL.out]; exact hpr⟩
theorem parts_any (key : ByteArray) (leaf : Bool) (r : Rw) (l : List Ce) (B : Nat) (S : List Nat) (w : World) (h : CRow w (Cl B S) r l) (hS : ∀ b ∈ S, b < w.heap.size) (hB : B ≤ w.heap.size) (hr : ∀ c ∈ l, Nd.rightOne leaf c = true) (hs : Nd.sum leaf l ≤ 750) :
   Calls Tryz.prog 162 #[.string key, .bool leaf, .slice r.A r.n r.c] w (TellsPs B S (Tr.partsL key leaf l) w) := by
 by_cases hf : Nd.sum leaf l ≤ 488
 · refine (parts_one key leaf r l (Cl B S) w h hr hf).mono ?_
   rintro e w1 ⟨hb, g, hg, rfl, hk⟩
   refine ⟨hb, ⟨some ⟨g, 0, none⟩, 1, 1⟩, rfl, ?_⟩
   unfold Tr.partsL
   rw [if_pos hf]
   exact PRow.lit hk ⟨by omega, fun hh => by have := hS g hh; omega⟩ (h.below hb)
 · have h0 : 0 < l.length := by
     cases l with
     | nil => simp [Nd.sum] at hf
     | cons c l => simp
   obtain ⟨A, n, cap⟩ := r
   obtain ⟨b, o, hA, -⟩ := h.at 0 h0
   simp only at hA
   subst hA
   exact parts_two key leaf b o n cap l B S w h hS hB hr (by omega) hs
end Go.Proofs.YtjbcbnemdhbhbaaGreatDoor
