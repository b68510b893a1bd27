/- A message as data, and its cells in memory. Over any program. -/
import Derived.Test.YtbiglfpikfjbpaaDoorMsgGrow
namespace Go.Proofs.YtbiglfpikfjbpaaDoor
open Go.RowKit
set_option linter.unusedVariables false

/-- A filter: kind, attribute, value, first, any, last, the filters within. -/
inductive Fl where
  | mk (kind : Int) (attr value first : ByteArray) (any : List ByteArray) (last : ByteArray) (kids : List Fl)
def Fl.zero : Fl := .mk 0 ⟨#[]⟩ ⟨#[]⟩ ⟨#[]⟩ [] ⟨#[]⟩ []

mutual
/-- These seven cells are the filter, whose rows lie in blocks of S. -/
def FlAt (w : World) (S : Nat → Prop) : Fl → List Value → Prop
  | .mk k a v f any l kids, c => ∃ q r : Rw, c = [.int .i64 k, .string a, .string v, .string f, .slice q.A q.n q.c, .string l, .slice r.A r.n r.c] ∧ ((Lit.int .i64 k).wf = true ∧ a.size ≤ maxLen ∧ v.size ≤ maxLen ∧ f.size ≤ maxLen ∧ l.size ≤ maxLen) ∧ SRow w S q any ∧
      (r.n = kids.length ∧ r.n ≤ r.c ∧ r.c ≤ maxLen) ∧ FlsAt w S kids r.A 0
/-- From place j on there lie these filters. -/
def FlsAt (w : World) (S : Nat → Prop) : List Fl → Option Addr → Nat → Prop
  | [], _, _ => True
  | k :: ks, A, j => (∃ (b o : Nat) (c : List Value), A = some ⟨b, o, none⟩ ∧ (S b ∧ b < w.heap.size) ∧ c.length = 7 ∧ (∀ (i : Nat) (u : Value), c[i]? = some u → w.cell? ⟨b, o + j * 7 + i, none⟩ = some u) ∧ FlAt w S k c) ∧ FlsAt w S ks A (j + 1)
end

mutual
theorem FlAt.keep {w w' : World} {S T : Nat → Prop} (hs : w.heap.size ≤ w'.heap.size) (hk : ∀ b, S b → b < w.heap.size → w'.heap[b]? = w.heap[b]?) (hT : ∀ b, S b → b < w.heap.size → T b) : ∀ (f : Fl) (c : List Value), FlAt w S f c → FlAt w' T f c
  | .mk k a v f any l kids, c, h => by
    unfold FlAt at h ⊢
    obtain ⟨q, r, h1, h2, h3, h4, h5⟩ := h
    exact ⟨q, r, h1, h2, h3.keep strAt_stable hs hk hT, h4, FlsAt.keep hs hk hT kids r.A 0 h5⟩
theorem FlsAt.keep {w w' : World} {S T : Nat → Prop} (hs : w.heap.size ≤ w'.heap.size) (hk : ∀ b, S b → b < w.heap.size → w'.heap[b]? = w.heap[b]?) (hT : ∀ b, S b → b < w.heap.size → T b) : ∀ (ks : List Fl) (A : Option Addr) (j : Nat), FlsAt w S ks A j → FlsAt w' T ks A j
  | [], _, _, _ => by unfold FlsAt; trivial
  | k :: ks, A, j, h => by
    unfold FlsAt at h ⊢
    obtain ⟨⟨b, o, c, q1, q2, q3, q4, q5⟩, hr⟩ := h
    exact ⟨⟨b, o, c, q1, ⟨hT b q2.1 q2.2, Nat.lt_of_lt_of_le q2.2 hs⟩, q3, fun i u hu => (World.cell?_of_block (a := ⟨b, o + j * 7 + i, none⟩) (hk b q2.1 q2.2)).trans (q4 i u hu), FlAt.keep hs hk hT k c q5⟩, FlsAt.keep hs hk hT ks A (j + 1) hr⟩
end
theorem flAt_stable : Stable FlAt := fun hs hk hT d c h => FlAt.keep hs hk hT d c h
theorem FlsAt.get {w : World} {S : Nat → Prop} : ∀ {ks : List Fl} {A : Option Addr} {j : Nat}, FlsAt w S ks A j → ∀ (i : Nat) (d : Fl), ks[i]? = some d → ∃ (b o : Nat) (c : List Value), A = some ⟨b, o, none⟩ ∧ (S b ∧ b < w.heap.size) ∧ c.length = 7 ∧
    (∀ (x : Nat) (u : Value), c[x]? = some u → w.cell? ⟨b, o + (j + i) * 7 + x, none⟩ = some u) ∧ FlAt w S d c
  | [], _, _, _, _, _, h => by simp at h
  | k :: ks, A, j, hk, i, d, h => by
    unfold FlsAt at hk
    obtain ⟨h0, hr⟩ := hk
    cases i with
    | zero =>
      obtain rfl : k = d := by simpa using h
      simpa using h0
    | succ i =>
      have := FlsAt.get hr i d (by simpa using h)
      rw [show j + 1 + i = j + (i + 1) by omega] at this
      exact this
theorem FlsAt.of {w : World} {S : Nat → Prop} {A : Option Addr} : ∀ (ks : List Fl) (j : Nat), (∀ (i : Nat) (d : Fl), ks[i]? = some d → ∃ (b o : Nat) (c : List Value), A = some ⟨b, o, none⟩ ∧ (S b ∧ b < w.heap.size) ∧ c.length = 7 ∧
    (∀ (x : Nat) (u : Value), c[x]? = some u → w.cell? ⟨b, o + (j + i) * 7 + x, none⟩ = some u) ∧ FlAt w S d c) → FlsAt w S ks A j
  | [], _, _ => by unfold FlsAt; trivial
  | k :: ks, j, h => by
    unfold FlsAt
    refine ⟨by simpa using h 0 k rfl, FlsAt.of ks (j + 1) fun i d hd => ?_⟩
    have := h (i + 1) d (by simpa using hd)
    rw [show j + (i + 1) = j + 1 + i by omega] at this
    exact this
theorem flRow_iff {w : World} {S : Nat → Prop} {r : Rw} {ks : List Fl} : RowOf 7 FlAt w S r ks ↔ (r.n = ks.length ∧ r.n ≤ r.c ∧ r.c ≤ maxLen) ∧ FlsAt w S ks r.A 0 := by
  constructor
  · rintro ⟨h1, h2, h3, h4⟩
    exact ⟨⟨h1, h2, h3⟩, FlsAt.of ks 0 fun i d hd => by rw [Nat.zero_add]; exact h4 i d hd⟩
  · rintro ⟨⟨h1, h2, h3⟩, h4⟩
    exact ⟨h1, h2, h3, fun i d hd => by have := h4.get i d hd; rw [Nat.zero_add] at this; exact this⟩

/-- A type and its values. -/
abbrev At := ByteArray × List ByteArray
def AttrAt (w : World) (S : Nat → Prop) (d : At) (c : List Value) : Prop := ∃ q : Rw, c = [.string d.1, .slice q.A q.n q.c] ∧ d.1.size ≤ maxLen ∧ SRow w S q d.2
theorem attrAt_stable : Stable AttrAt := fun hs hk hT d c ⟨q, h1, h2, h3⟩ => ⟨q, h1, h2, h3.keep strAt_stable hs hk hT⟩
/-- A change: what is done, a type and its values. -/
abbrev Md := Int × ByteArray × List ByteArray
def ModAt (w : World) (S : Nat → Prop) (d : Md) (c : List Value) : Prop := ∃ q : Rw, c = [.int .i64 d.1, .string d.2.1, .slice q.A q.n q.c] ∧ ((Lit.int .i64 d.1).wf = true ∧ d.2.1.size ≤ maxLen) ∧ SRow w S q d.2.2
theorem modAt_stable : Stable ModAt := fun hs hk hT d c ⟨q, h1, h2, h3⟩ => ⟨q, h1, h2, h3.keep strAt_stable hs hk hT⟩
/-- A control: its type, is it critical, has it a value, its value. -/
abbrev Co := ByteArray × Bool × Bool × ByteArray
def CoAt (_ : World) (_ : Nat → Prop) (d : Co) (c : List Value) : Prop := c = [.string d.1, .bool d.2.1, .bool d.2.2.1, .string d.2.2.2] ∧ d.1.size ≤ maxLen ∧ d.2.2.2.size ≤ maxLen
theorem coAt_stable : Stable CoAt := fun _ _ _ _ _ h => h

/-- A message. -/
structure Ms where
  id : Int
  op : Int
  version : Int
  name : ByteArray
  sasl : Bool
  secret : ByteArray
  kind : ByteArray
  has : Bool
  value : ByteArray
  code : Int
  text : ByteArray
  scope : Int
  deref : Int
  size : Int
  time : Int
  types : Bool
  filter : Fl
  attrs : List ByteArray
  list : List At
  mods : List Md
  rdn : ByteArray
  old : Bool
  dest : List ByteArray
  other : Int
  controls : List Co
def Ms.zero : Ms := ⟨0, 0, 0, ⟨#[]⟩, false, ⟨#[]⟩, ⟨#[]⟩, false, ⟨#[]⟩, 0, ⟨#[]⟩, 0, 0, 0, 0, false, Fl.zero, [], [], [], ⟨#[]⟩, false, [], 0, []⟩
/-- A message's cells, its rows given. -/
def Ms.mc (m : Ms) (f : FC) (at' li mo de co : Rw) : MC :=
  ⟨m.id, m.op, m.version, m.name, m.sasl, m.secret, m.kind, m.has, m.value, m.code, m.text, m.scope, m.deref, m.size, m.time, m.types, f, at', li, mo, m.rdn, m.old, de, m.other, co⟩
abbrev FC.cells (f : FC) : List Value := [.int .i64 f.kind, .string f.attr, .string f.value, .string f.first, .slice f.any.A f.any.n f.any.c, .string f.last, .slice f.kids.A f.kids.n f.kids.c]
def Ms.fits (M : Ms) : Prop := M.name.size ≤ maxLen ∧ M.secret.size ≤ maxLen ∧ M.kind.size ≤ maxLen ∧ M.value.size ≤ maxLen ∧ M.text.size ≤ maxLen ∧ M.rdn.size ≤ maxLen
/-- The cells m are the message M. -/
def MsAt (w : World) (S : Nat → Prop) (M : Ms) (m : MC) : Prop :=
  ∃ (f : FC) (at' li mo de co : Rw), m = M.mc f at' li mo de co ∧ M.fits ∧ FlAt w S M.filter f.cells ∧ SRow w S at' M.attrs ∧ RowOf 2 AttrAt w S li M.list ∧ RowOf 3 ModAt w S mo M.mods ∧ SRow w S de M.dest ∧ RowOf 4 CoAt w S co M.controls
theorem MsAt.keep {w w' : World} {S T : Nat → Prop} {M : Ms} {m : MC} (h : MsAt w S M m) (hs : w.heap.size ≤ w'.heap.size) (hk : ∀ b, S b → b < w.heap.size → w'.heap[b]? = w.heap[b]?) (hT : ∀ b, S b → b < w.heap.size → T b) : MsAt w' T M m := by
  obtain ⟨f, a, l, mo, d, c, h0, hf, h1, h2, h3, h4, h5, h6⟩ := h
  exact ⟨f, a, l, mo, d, c, h0, hf, FlAt.keep hs hk hT _ _ h1, h2.keep strAt_stable hs hk hT, h3.keep attrAt_stable hs hk hT, h4.keep modAt_stable hs hk hT, h5.keep strAt_stable hs hk hT, h6.keep coAt_stable hs hk hT⟩
theorem flAt_zero (w : World) (S : Nat → Prop) : FlAt w S Fl.zero FC.zero.cells := by
  unfold Fl.zero FlAt
  exact ⟨Rw.none, Rw.none, rfl, ⟨rfl, Nat.zero_le _, Nat.zero_le _, Nat.zero_le _, Nat.zero_le _⟩, RowOf.nil _ _, ⟨rfl, Nat.le_refl _, Nat.zero_le _⟩, by unfold FlsAt; trivial⟩
/-- The zero message but for its number and its operation. -/
def Ms.base (id op : Int) : Ms := { Ms.zero with id := id, op := op }
def MC.base (id op : Int) : MC := { MC.zero with id := id, op := op }
/-- A message whose rows are all empty. -/
theorem MsAt.flat {w : World} {S : Nat → Prop} {M : Ms} (hf : M.filter = Fl.zero) (h1 : M.attrs = []) (h2 : M.list = []) (h3 : M.mods = []) (h4 : M.dest = []) (h5 : M.controls = []) (h6 : M.fits) : MsAt w S M (M.mc FC.zero Rw.none Rw.none Rw.none Rw.none Rw.none) :=
  ⟨FC.zero, Rw.none, Rw.none, Rw.none, Rw.none, Rw.none, rfl, h6, by rw [hf]; exact flAt_zero _ _, by rw [h1]; exact RowOf.nil _ _, by rw [h2]; exact RowOf.nil _ _, by rw [h3]; exact RowOf.nil _ _, by rw [h4]; exact RowOf.nil _ _, by rw [h5]; exact RowOf.nil _ _⟩
end Go.Proofs.YtbiglfpikfjbpaaDoor
