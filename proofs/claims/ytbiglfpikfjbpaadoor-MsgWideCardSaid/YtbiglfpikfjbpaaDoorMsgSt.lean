/- A message's reader: a row that is read and a struct that is filled; may in its handy form; readBind. -/
import Derived.Test.YtbiglfpikfjbpaaDoorMsgTexts
namespace Go.Proofs.YtbiglfpikfjbpaaDoor
open Go.RowKit
set_option maxRecDepth 100000
set_option linter.unusedVariables false
set_option linter.unusedSimpArgs false

/-- may, in a handy form. -/
def MayR (b : Nat) (S : Nat → Prop) (ks : List Tl) (cls tag : Int) (cons : Bool) (v : Value) (w : World) (e : Ending) (w' : World) : Prop :=
  Off [b] w w' ∧ ((headP cls tag cons ks = none ∧ e = .returned (.tuple #[.agg #[.int .i64 0, .bool false, .int .i64 0, .string ⟨#[]⟩, .slice none 0 0], .bool false]) ∧ Bk w' b 75 #[v] ∧ TRow w' S v ks) ∨
    ∃ (s : ByteArray) (l rest : List Tl) (A : Option Addr) (cap : Nat) (v' : Value), headP cls tag cons ks = some (.mk cls cons tag s l, rest) ∧ s.size ≤ maxLen ∧ e = .returned (.tuple #[.agg #[.int .i64 cls, .bool cons, .int .i64 tag, .string s, .slice A l.length cap], .bool true]) ∧
      Bk w' b 75 #[v'] ∧ TRow w' S v' rest ∧ TRow w' S (.slice A l.length cap) l)
theorem may_r (b : Nat) (v : Value) (ks : List Tl) (S : Nat → Prop) (cls tag : Int) (cons : Bool) (w : World) (hb : Bk w b 75 #[v]) (hr : TRow w S v ks) (hnb : ∀ x, S x → x ≠ b) :
    Calls Tryd.prog 30 #[.pointer (some ⟨b, 0, none⟩), .int .i64 cls, .int .i64 tag, .bool cons] w (MayR b S ks cls tag cons v w) := by
  refine (may_any b v ks S cls tag cons w hb hr hnb).mono ?_
  rintro e w' ⟨ho, hcs⟩
  refine ⟨ho, ?_⟩
  rcases hcs with ⟨hq, rfl, hb2⟩ | ⟨hq, k, rest, cs, v', hks, rfl, hb2, ht, hr2⟩
  · exact .inl ⟨headP_no hq, rfl, hb2, hr.keep ho.size (fun x hx hlt => ho.block x hlt (by simpa using hnb x hx)) (fun _ h _ => h)⟩
  · have hp := headP_yes hks hq
    obtain ⟨c, k, t, s, l⟩ := k
    subst hks
    obtain ⟨rfl, rfl, rfl⟩ := isB_cons hq
    unfold TlAt at ht
    obtain ⟨A, cap, rfl, hl, -, -, hs, hk⟩ := ht
    exact .inr ⟨s, l, rest, A, cap, v', hp, hs, rfl, hb2, hr2, TRow.of_kids hl hk⟩
theorem must_r (b : Nat) (v : Value) (ks : List Tl) (S : Nat → Prop) (cls tag : Int) (cons : Bool) (w : World) (hb : Bk w b 75 #[v]) (hr : TRow w S v ks) (hnb : ∀ x, S x → x ≠ b) :
    Calls Tryd.prog 50 #[.pointer (some ⟨b, 0, none⟩), .int .i64 cls, .int .i64 tag, .bool cons] w fun e w' => Off [b] w w' ∧ ((headP cls tag cons ks = none ∧ ThrowsM e) ∨
      ∃ (s : ByteArray) (l rest : List Tl) (A : Option Addr) (cap : Nat) (v' : Value), headP cls tag cons ks = some (.mk cls cons tag s l, rest) ∧ s.size ≤ maxLen ∧ e = .returned (.agg #[.int .i64 cls, .bool cons, .int .i64 tag, .string s, .slice A l.length cap]) ∧
        Bk w' b 75 #[v'] ∧ TRow w' S v' rest ∧ TRow w' S (.slice A l.length cap) l) := by
  refine (must_any b v ks S cls tag cons w hb hr hnb).mono ?_
  rintro e w' ⟨ho, hcs⟩
  refine ⟨ho, ?_⟩
  rcases hcs with ⟨hq, h⟩ | ⟨hq, k, rest, cs, v', hks, rfl, hb2, ht, hr2⟩
  · exact .inl ⟨headP_no hq, h⟩
  · have hp := headP_yes hks hq
    obtain ⟨c, k, t, s, l⟩ := k
    subst hks
    obtain ⟨rfl, rfl, rfl⟩ := isB_cons hq
    unfold TlAt at ht
    obtain ⟨A, cap, rfl, hl, -, -, hs, hk⟩ := ht
    exact .inr ⟨s, l, rest, A, cap, v', hp, hs, rfl, hb2, hr2, TRow.of_kids hl hk⟩

/-- Row, struct and the trees' blocks lie apart, below B. -/
structure Fix (S : Nat → Prop) (b g B : Nat) : Prop where
  ne : b ≠ g
  bB : b < B
  gB : g < B
  apart : ∀ x, S x → x ≠ b ∧ x ≠ g ∧ x < B
/-- Since w0: only the row and the struct and new blocks have turned; the row reads so, the struct has these cells. -/
structure St (w0 : World) (S : Nat → Prop) (b g : Nat) (T : TypeId) (w : World) (v : Value) (ks : List Tl) (cs : Array Value) : Prop where
  off : Off [b, g] w0 w
  row : Bk w b 75 #[v]
  tr : TRow w S v ks
  ms : Bk w g T cs
section
variable {w0 w w' : World} {S : Nat → Prop} {b g : Nat} {T : TypeId} {v v' : Value} {ks rest : List Tl} {cs : Array Value}
theorem Fix.nb {B : Nat} (F : Fix S b g B) : ∀ x, S x → x ≠ b := fun x hx => (F.apart x hx).1
theorem St.rd (F : Fix S b g w0.heap.size) (h : St w0 S b g T w v ks cs) (ho : Off [b] w w') (hb : Bk w' b 75 #[v']) (hr : TRow w' S v' rest) : St w0 S b g T w' v' rest cs :=
  ⟨h.off.trans (ho.mono (by simp)), hb, hr, ho.bk h.ms (by simpa using F.ne.symm)⟩
theorem St.put (F : Fix S b g w0.heap.size) (h : St w0 S b g T w v ks cs) (i : Nat) (u : Value) : St w0 S b g T (w.setCell ⟨g, i, none⟩ u) v ks (cs.setIfInBounds i u) :=
  ⟨h.off.setCell (.inl (by simp)) _, h.row.far F.ne _, h.tr.keep (by simp [World.setCell]) (fun x hx _ => Below.heap_setCell w ⟨g, i, none⟩ u x (F.apart x hx).2.1) (fun _ h _ => h), h.ms.put i u⟩
theorem St.new (h : St w0 S b g T w v ks cs) (o : Obj) : St w0 S b g T (w.alloc o) v ks cs :=
  ⟨h.off.alloc o, h.row.alloc o, h.tr.below ((Below.refl _ w).alloc (Nat.le_refl _) o), h.ms.alloc o⟩
theorem St.drew (h : St w0 S b g T w v ks cs) : St w0 S b g T w.drew v ks cs := ⟨h.off.drew, h.row, h.tr.keep (Nat.le_refl _) (fun _ _ _ => rfl) (fun _ h _ => h), h.ms⟩
/-- Blocks that are newer than w0 have turned. -/
theorem St.quiet (F : Fix S b g w0.heap.size) (h : St w0 S b g T w v ks cs) {Z : List Nat} (ho : Off Z w w') (hZ : ∀ z ∈ Z, w0.heap.size ≤ z) : St w0 S b g T w' v ks cs :=
  ⟨h.off.then ho (fun z hz => .inr (hZ z hz)), ho.bk h.row (fun hm => by have := hZ _ hm; have := F.bB; omega), h.tr.keep ho.size (fun x hx hlt => ho.block x hlt (fun hm => by have := hZ _ hm; have := (F.apart x hx).2.2; omega)) (fun _ h _ => h),
    ho.bk h.ms (fun hm => by have := hZ _ hm; have := F.gB; omega)⟩
/-- A row of the call's own, in block c from B on. -/
structure Ax (S : Nat → Prop) (B c : Nat) (w : World) (v : Value) (ks : List Tl) : Prop where
  row : Bk w c 75 #[v]
  tr : TRow w S v ks
  le : B ≤ c
theorem Ax.put {B c : Nat} (F : Fix S b g B) (h : Ax S B c w v ks) (i : Nat) (u : Value) : Ax S B c (w.setCell ⟨g, i, none⟩ u) v ks :=
  ⟨h.row.far (by have := F.gB; have := h.le; show c ≠ g; omega) _, h.tr.keep (by simp [World.setCell]) (fun x hx _ => Below.heap_setCell w ⟨g, i, none⟩ u x (F.apart x hx).2.1) (fun _ h _ => h), h.le⟩
theorem Ax.new {B c : Nat} (h : Ax S B c w v ks) (o : Obj) : Ax S B c (w.alloc o) v ks := ⟨h.row.alloc o, h.tr.below ((Below.refl _ w).alloc (Nat.le_refl _) o), h.le⟩
theorem Ax.drew {B c : Nat} (h : Ax S B c w v ks) : Ax S B c w.drew v ks := ⟨h.row, h.tr.keep (Nat.le_refl _) (fun _ _ _ => rfl) (fun _ h _ => h), h.le⟩
theorem Ax.quiet {B c : Nat} (F : Fix S b g B) (h : Ax S B c w v ks) {Z : List Nat} (ho : Off Z w w') (hZ : ∀ z ∈ Z, (z = b ∨ z = g ∨ B ≤ z) ∧ z ≠ c) : Ax S B c w' v ks :=
  ⟨ho.bk h.row (fun hm => (hZ _ hm).2 rfl), h.tr.keep ho.size (fun x hx hlt => ho.block x hlt (fun hm => by have h1 := hZ _ hm; have h2 := F.apart x hx; omega)) (fun _ h _ => h), h.le⟩
theorem Ax.nb {B c : Nat} (F : Fix S b g B) (h : Ax S B c w v ks) : ∀ x, S x → x ≠ c := fun x hx => by have := (F.apart x hx).2.2; have := h.le; omega
theorem St.cell (h : St w0 S b g T w v ks cs) (i : Nat) : w.cell? ⟨g, i, none⟩ = cs[i]? := h.ms.cell i
theorem St.frozen (h : St w0 S b g T w v ks cs) (i : Nat) : w.frozen? ⟨g, i, none⟩ = false := h.ms.frozen i
end

theorem MC.put_id (m : MC) (x : Int) : m.cells.setIfInBounds 0 (.int .i64 x) = ({ m with id := x } : MC).cells := by simp only [MC.cells, List.setIfInBounds_toArray, List.set_cons_succ, List.set_cons_zero]
theorem MC.put_op (m : MC) (x : Int) : m.cells.setIfInBounds 1 (.int .i64 x) = ({ m with op := x } : MC).cells := by simp only [MC.cells, List.setIfInBounds_toArray, List.set_cons_succ, List.set_cons_zero]
theorem MC.put_version (m : MC) (x : Int) : m.cells.setIfInBounds 2 (.int .i64 x) = ({ m with version := x } : MC).cells := by simp only [MC.cells, List.setIfInBounds_toArray, List.set_cons_succ, List.set_cons_zero]
theorem MC.put_name (m : MC) (x : ByteArray) : m.cells.setIfInBounds 3 (.string x) = ({ m with name := x } : MC).cells := by simp only [MC.cells, List.setIfInBounds_toArray, List.set_cons_succ, List.set_cons_zero]
theorem MC.put_sasl (m : MC) (x : Bool) : m.cells.setIfInBounds 4 (.bool x) = ({ m with sasl := x } : MC).cells := by simp only [MC.cells, List.setIfInBounds_toArray, List.set_cons_succ, List.set_cons_zero]
theorem MC.put_secret (m : MC) (x : ByteArray) : m.cells.setIfInBounds 5 (.string x) = ({ m with secret := x } : MC).cells := by simp only [MC.cells, List.setIfInBounds_toArray, List.set_cons_succ, List.set_cons_zero]
theorem MC.put_kind (m : MC) (x : ByteArray) : m.cells.setIfInBounds 6 (.string x) = ({ m with kind := x } : MC).cells := by simp only [MC.cells, List.setIfInBounds_toArray, List.set_cons_succ, List.set_cons_zero]
theorem MC.put_has (m : MC) (x : Bool) : m.cells.setIfInBounds 7 (.bool x) = ({ m with has := x } : MC).cells := by simp only [MC.cells, List.setIfInBounds_toArray, List.set_cons_succ, List.set_cons_zero]
theorem MC.put_value (m : MC) (x : ByteArray) : m.cells.setIfInBounds 8 (.string x) = ({ m with value := x } : MC).cells := by simp only [MC.cells, List.setIfInBounds_toArray, List.set_cons_succ, List.set_cons_zero]
theorem MC.put_code (m : MC) (x : Int) : m.cells.setIfInBounds 9 (.int .i64 x) = ({ m with code := x } : MC).cells := by simp only [MC.cells, List.setIfInBounds_toArray, List.set_cons_succ, List.set_cons_zero]
theorem MC.put_text (m : MC) (x : ByteArray) : m.cells.setIfInBounds 10 (.string x) = ({ m with text := x } : MC).cells := by simp only [MC.cells, List.setIfInBounds_toArray, List.set_cons_succ, List.set_cons_zero]
theorem MC.put_scope (m : MC) (x : Int) : m.cells.setIfInBounds 11 (.int .i64 x) = ({ m with scope := x } : MC).cells := by simp only [MC.cells, List.setIfInBounds_toArray, List.set_cons_succ, List.set_cons_zero]
theorem MC.put_deref (m : MC) (x : Int) : m.cells.setIfInBounds 12 (.int .i64 x) = ({ m with deref := x } : MC).cells := by simp only [MC.cells, List.setIfInBounds_toArray, List.set_cons_succ, List.set_cons_zero]
theorem MC.put_size (m : MC) (x : Int) : m.cells.setIfInBounds 13 (.int .i64 x) = ({ m with size := x } : MC).cells := by simp only [MC.cells, List.setIfInBounds_toArray, List.set_cons_succ, List.set_cons_zero]
theorem MC.put_time (m : MC) (x : Int) : m.cells.setIfInBounds 14 (.int .i64 x) = ({ m with time := x } : MC).cells := by simp only [MC.cells, List.setIfInBounds_toArray, List.set_cons_succ, List.set_cons_zero]
theorem MC.put_types (m : MC) (x : Bool) : m.cells.setIfInBounds 15 (.bool x) = ({ m with types := x } : MC).cells := by simp only [MC.cells, List.setIfInBounds_toArray, List.set_cons_succ, List.set_cons_zero]
theorem MC.put_attrs (m : MC) (x : Rw) : m.cells.setIfInBounds 23 (.slice x.A x.n x.c) = ({ m with attrs := x } : MC).cells := by simp only [MC.cells, List.setIfInBounds_toArray, List.set_cons_succ, List.set_cons_zero]
theorem MC.put_list (m : MC) (x : Rw) : m.cells.setIfInBounds 24 (.slice x.A x.n x.c) = ({ m with list := x } : MC).cells := by simp only [MC.cells, List.setIfInBounds_toArray, List.set_cons_succ, List.set_cons_zero]
theorem MC.put_mods (m : MC) (x : Rw) : m.cells.setIfInBounds 25 (.slice x.A x.n x.c) = ({ m with mods := x } : MC).cells := by simp only [MC.cells, List.setIfInBounds_toArray, List.set_cons_succ, List.set_cons_zero]
theorem MC.put_rdn (m : MC) (x : ByteArray) : m.cells.setIfInBounds 26 (.string x) = ({ m with rdn := x } : MC).cells := by simp only [MC.cells, List.setIfInBounds_toArray, List.set_cons_succ, List.set_cons_zero]
theorem MC.put_old (m : MC) (x : Bool) : m.cells.setIfInBounds 27 (.bool x) = ({ m with old := x } : MC).cells := by simp only [MC.cells, List.setIfInBounds_toArray, List.set_cons_succ, List.set_cons_zero]
theorem MC.put_dest (m : MC) (x : Rw) : m.cells.setIfInBounds 28 (.slice x.A x.n x.c) = ({ m with dest := x } : MC).cells := by simp only [MC.cells, List.setIfInBounds_toArray, List.set_cons_succ, List.set_cons_zero]
theorem MC.put_other (m : MC) (x : Int) : m.cells.setIfInBounds 29 (.int .i64 x) = ({ m with other := x } : MC).cells := by simp only [MC.cells, List.setIfInBounds_toArray, List.set_cons_succ, List.set_cons_zero]
theorem MC.put_controls (m : MC) (x : Rw) : m.cells.setIfInBounds 30 (.slice x.A x.n x.c) = ({ m with controls := x } : MC).cells := by simp only [MC.cells, List.setIfInBounds_toArray, List.set_cons_succ, List.set_cons_zero]

/-- The message's block is there still, whatever it holds. -/
def OldM (w : World) (g : Nat) : Prop := ∃ cs : Array Value, Bk w g 30 cs ∧ cs.size = 31
/-- What a part of a message's reader leaves. -/
def RdM (b g : Nat) (S : Nat → Prop) (r : Option (Ms × List Tl)) (w : World) (e : Ending) (w' : World) : Prop :=
  Off [b, g] w w' ∧ ((r = none ∧ ThrowsM e ∧ OldM w' g) ∨ ∃ (M : Ms) (rest : List Tl) (v' : Value) (m : MC), r = some (M, rest) ∧ e = .returned (.tuple #[]) ∧ Bk w' b 75 #[v'] ∧ TRow w' S v' rest ∧ Bk w' g 30 m.cells ∧ MsAt w' (fun x => w.heap.size ≤ x) M m)

/-- A row of one text. -/
theorem sRow_one {W : World} {k B : Nat} {s : ByteArray} (h : Bk W k 9 #[.string s]) (hB : B ≤ k) (hz : s.size ≤ maxLen) : SRow W (fun x => B ≤ x) ⟨some ⟨k, 0, none⟩, 1, 1⟩ [s] := by
  refine ⟨rfl, Nat.le_refl _, by show 1 ≤ maxLen; unfold maxLen; omega, fun i d hd => ?_⟩
  have hi : i < [s].length := (List.getElem?_eq_some_iff.1 hd).1
  obtain rfl : i = 0 := by simp at hi; omega
  obtain rfl : s = d := by simpa using hd
  refine ⟨k, 0, [.string s], rfl, ⟨hB, h.lt⟩, rfl, fun j u hu => ?_, rfl, hz⟩
  have hj : j < 1 := (List.getElem?_eq_some_iff.1 hu).1
  obtain rfl : j = 0 := by omega
  rw [show 0 + 0 * 1 + 0 = 0 from rfl, h.cell 0]
  simpa using hu
theorem bk_new2 (w : World) (p : Addr) (u : Value) (o : Obj) (t : TypeId) (cs : Array Value) : Bk (((w.setCell p u).alloc o).alloc (.cells cs t)) (w.heap.size + 1) t cs := by
  have h := Bk.new ((w.setCell p u).alloc o) t cs
  have e : ((w.setCell p u).alloc o).heap.size = w.heap.size + 1 := by simp [World.setCell]
  rwa [e] at h
/-- A name and how it is proved. -/
def bindP (id : Int) (ks : List Tl) : Option (Ms × List Tl) :=
  (numP 2 1 127 ks).bind fun p => (textP p.2).bind fun q => match headP 2 0 false q.2 with
    | some (t, rest) => some ({ Ms.base id 0 with version := p.1, name := q.1, secret := t.body }, rest)
    | none => (headP 2 3 true q.2).bind fun x => (textP x.1.kids).bind fun y => match headP 0 4 false y.2 with
      | some (t, l) => if l = [] then some ({ Ms.base id 0 with version := p.1, name := q.1, sasl := true, kind := y.1, has := true, value := t.body }, x.2) else none
      | none => if y.2 = [] then some ({ Ms.base id 0 with version := p.1, name := q.1, sasl := true, kind := y.1 }, x.2) else none
set_option maxHeartbeats 4000000 in
theorem readBind_any (id : Int) (b g : Nat) (v : Value) (ks : List Tl) (S : Nat → Prop) (w : World) (F : Fix S b g w.heap.size) (hb : Bk w b 75 #[v]) (hr : TRow w S v ks) (hg : Bk w g 30 (MC.base id 0).cells) :
    Calls Tryd.prog 74 #[.pointer (some ⟨b, 0, none⟩), .pointer (some ⟨g, 0, none⟩)] w (RdM b g S (bindP id ks) w) := by
  have HF := Lib.hid F
  have HS := Lib.hid (show St w S b g 30 w v ks (MC.base id 0).cells from ⟨Off.refl _ _, hb, hr, hg⟩)
  clear hb hr hg F
  go_enter Tryd.func74, Tryd.ntmps74
  go_wp2_with fail
  (go_at_call 28)
  refine (num_any 2 1 127 b v ks S _ HS.out.row HS.out.tr HF.out.nb).mono ?_
  rintro e w1 ⟨ho, hcs⟩
  rcases hcs with ⟨hn, rfl⟩ | ⟨n1, rest1, v1, hn, rfl, hb1, hr1⟩
  · exact ⟨rfl, HS.out.off.trans (ho.mono (by simp)), .inl ⟨by simp [bindP, hn], rfl, ⟨_, ho.bk HS.out.ms (by simpa using HF.out.ne.symm), rfl⟩⟩⟩
  have HN1 := Lib.hid hn
  have hs1 := HS.out.rd HF.out ho hb1 hr1
  have q2 : w1.cell? ⟨g, 2, none⟩ = some (.int .i64 0) := hs1.cell 2
  have f2 := hs1.frozen 2
  have hp1 := hs1.put HF.out 2 (.int .i64 n1)
  rw [MC.put_version] at hp1
  have HS1 := Lib.hid hp1
  clear ho hb1 hr1 hn hs1 HS hp1
  go_wp2_with fail
  (go_at_call 53)
  refine (text_any b v1 rest1 S _ HS1.out.row HS1.out.tr HF.out.nb).mono ?_
  rintro e w2 ⟨ho, hcs⟩
  rcases hcs with ⟨hn, rfl⟩ | ⟨n2, rest2, v2, hn, ⟨hz2, rfl⟩, hb2, hr2⟩
  · exact ⟨rfl, HS1.out.off.trans (ho.mono (by simp)), .inl ⟨by simp [bindP, HN1.out, hn], rfl, ⟨_, ho.bk HS1.out.ms (by simpa using HF.out.ne.symm), rfl⟩⟩⟩
  have HN2 := Lib.hid hn
  have HZ2 := Lib.hid hz2
  have hs2 := HS1.out.rd HF.out ho hb2 hr2
  have q3 : w2.cell? ⟨g, 3, none⟩ = some (.string ⟨#[]⟩) := hs2.cell 3
  have f3 := hs2.frozen 3
  have hp2 := hs2.put HF.out 3 (.string n2)
  rw [MC.put_name] at hp2
  have HS2 := Lib.hid hp2
  clear ho hb2 hr2 hn hs2 HS1 hp2 hz2 q2 f2
  go_wp2_with fail
  (go_at_call 30)
  refine (may_r b v2 rest2 S _ _ _ _ HS2.out.row HS2.out.tr HF.out.nb).mono ?_
  rintro e w3 ⟨ho, hcs⟩
  rcases hcs with ⟨hn, rfl, hb3, hr3⟩ | ⟨s3, l3, rest3, A3, cap3, v3, hn, hz3, rfl, hb3, hr3, hk3⟩
  · have HN3 := Lib.hid hn
    have hs3 := (HS2.out.rd HF.out ho hb3 hr3)
    have HS3 := Lib.hid (hs3.new (.cells #[.int .i64 0, .bool false, .int .i64 0, .string ⟨#[]⟩, .slice none 0 0] 38))
    have gl := hs3.ms.lt
    clear ho hb3 hr3 hn hs3 HS2 q3 f3
    go_wp2_with fail
    (go_at_call 50)
    refine (must_r b v2 rest2 S _ _ _ _ HS3.out.row HS3.out.tr HF.out.nb).mono ?_
    rintro e w4 ⟨ho, hcs⟩
    rcases hcs with ⟨hn, rfl⟩ | ⟨s4, l4, rest4, A4, cap4, v4, hn, hz4, rfl, hb4, hr4, hk4⟩
    · exact ⟨rfl, HS3.out.off.trans (ho.mono (by simp)), .inl ⟨by simp [bindP, HN1.out, HN2.out, HN3.out, hn], rfl, ⟨_, ho.bk HS3.out.ms (by simpa using HF.out.ne.symm), rfl⟩⟩⟩
    have HN4 := Lib.hid hn
    have hs4 := HS3.out.rd HF.out ho hb4 hr4
    have ha4 := (Below.refl w4.heap.size w4).alloc (Nat.le_refl _) (.cells #[.slice A4 l4.length cap4] 75)
    have HS4 := Lib.hid (hs4.new (.cells #[.slice A4 l4.length cap4] 75))
    have HC4 := Lib.hid (show Bk (w4.alloc (.cells #[.slice A4 l4.length cap4] 75)) w4.heap.size 75 _ from Bk.new w4 _ #[.slice A4 l4.length cap4])
    have HK4 := Lib.hid (hk4.below ha4)
    have hf4 := field_kids 2 3 true (.string s4) (.slice A4 l4.length cap4)
    have gl4 := hs4.ms.lt
    have hw4 := hs4.off.size
    have q4 : (w4.alloc (.cells #[.slice A4 l4.length cap4] 75)).cell? ⟨g, 4, none⟩ = some (.bool false) := HS4.out.cell 4
    clear ho hb4 hr4 hn hs4 HS3 ha4 hk4
    go_wp2_with fail
    (go_at_call 53)
    have hnb4 : ∀ x, S x → x ≠ w4.heap.size := fun x hx => by have := (HF.out.apart x hx).2.2; omega
    refine (text_any w4.heap.size _ l4 S _ HC4.out HK4.out hnb4).mono ?_
    rintro e w5 ⟨ho, hcs⟩
    have hs5 := HS4.out.quiet HF.out ho (by simpa using hw4)
    rcases hcs with ⟨hn, rfl⟩ | ⟨n5, rest5, v5, hn, ⟨hz5, rfl⟩, hb5, hr5⟩
    · exact ⟨rfl, hs5.off, .inl ⟨by simp [bindP, HN1.out, HN2.out, HN3.out, HN4.out, Tl.kids, hn], rfl, ⟨_, hs5.ms, rfl⟩⟩⟩
    have HN5 := Lib.hid hn
    have HZ5 := Lib.hid hz5
    have q54 : w5.cell? ⟨g, 4, none⟩ = some (.bool false) := hs5.cell 4
    have f54 := hs5.frozen 4
    have q56 : w5.cell? ⟨g, 6, none⟩ = some (.string ⟨#[]⟩) := hs5.cell 6
    have f56 := hs5.frozen 6
    have hp5 := (hs5.put HF.out 4 (.bool true)).put HF.out 6 (.string n5)
    rw [MC.put_sasl, MC.put_kind] at hp5
    have HS5 := Lib.hid hp5
    have hgc : g ≠ w4.heap.size := by have := HF.out.gB; omega
    have hx5 := (Off.refl [g] w5).setCell (p := ⟨g, 4, none⟩) (.inl (by simp)) (.bool true) |>.setCell (p := ⟨g, 6, none⟩) (.inl (by simp)) (.string n5)
    have HC5 := Lib.hid (hx5.bk hb5 (by simpa using hgc.symm))
    have HR5 := Lib.hid (hr5.keep hx5.size (fun x hx hlt => hx5.block x hlt (by simpa using (HF.out.apart x hx).2.1)) (fun _ h _ => h))
    have HNB := Lib.hid hnb4
    clear ho hb5 hr5 hn hs5 HS4 hp5 hz5 hx5 hnb4
    go_wp2_with fail
    (go_at_call 30)
    refine (may_r w4.heap.size _ rest5 S _ _ _ _ HC5.out HR5.out HNB.out).mono ?_
    rintro e w6 ⟨ho, hcs⟩
    have hs6 := HS5.out.quiet HF.out ho (by simpa using hw4)
    rcases hcs with ⟨hn, rfl, hb6, hr6⟩ | ⟨s6, l6, rest6, A6, cap6, v6, hn, hz6, rfl, hb6, hr6, hk6⟩
    · have HN6 := Lib.hid hn
      have HS6 := Lib.hid (hs6.new (.cells #[.int .i64 0, .bool false, .int .i64 0, .string ⟨#[]⟩, .slice none 0 0] 38))
      have hc6 := hb6.alloc (.cells #[.int .i64 0, .bool false, .int .i64 0, .string ⟨#[]⟩, .slice none 0 0] 38)
      obtain ⟨A7, cap7, rfl, -⟩ := _root_.id hr6
      have HE := Lib.hid (end_any w4.heap.size rest5.length A7 cap7 _ hc6)
      clear ho hb6 hr6 hn hs6 HS5 hc6 q54 f54 q56 f56
      go_wp2_with fail
      (go_at_call 32)
      refine HE.out.mono ?_
      rintro e w7 ⟨ho, hcs⟩
      have hs7 := HS6.out.quiet HF.out ho (by simp)
      rcases hcs with ⟨hn, rfl⟩ | ⟨hn, rfl⟩
      · have hl : rest5 = [] := by simpa using hn
        have HS7 := Lib.hid hs7
        clear ho hs7 hn
        go_wp2_with fail
        go_end0
        refine ⟨HS7.out.off, .inr ⟨_, rest4, v4, _, by simp only [bindP, HN1.out, HN2.out, HN3.out, HN4.out, HN5.out, HN6.out, Option.bind_some, Tl.kids, if_pos hl]; rfl, rfl, HS7.out.row, HS7.out.tr, HS7.out.ms, ?_⟩⟩
        exact MsAt.flat rfl rfl rfl rfl rfl rfl ⟨HZ2.out, Nat.zero_le _, HZ5.out, Nat.zero_le _, Nat.zero_le _, Nat.zero_le _⟩
      · have hl : rest5 ≠ [] := by rintro rfl; simp at hn
        exact ⟨rfl, hs7.off, .inl ⟨by simp [bindP, HN1.out, HN2.out, HN3.out, HN4.out, HN5.out, HN6.out, Tl.kids, hl], rfl, ⟨_, hs7.ms, rfl⟩⟩⟩
    · have HN6 := Lib.hid hn
      have HZ6 := Lib.hid hz6
      have q67 : w6.cell? ⟨g, 7, none⟩ = some (.bool false) := hs6.cell 7
      have f67 := hs6.frozen 7
      have q68 : w6.cell? ⟨g, 8, none⟩ = some (.string ⟨#[]⟩) := hs6.cell 8
      have f68 := hs6.frozen 8
      have gl6 := hs6.ms.lt
      have hp6 := (hs6.put HF.out 7 (.bool true)).put HF.out 8 (.string s6)
      rw [MC.put_has, MC.put_value] at hp6
      have HS6 := Lib.hid (hp6.new (.cells #[.int .i64 0, .bool false, .int .i64 4, .string s6, .slice A6 l6.length cap6] 38)).drew
      have hgc : g ≠ w4.heap.size := by have := HF.out.gB; omega
      have hx6 := (Off.refl [g] w6).setCell (p := ⟨g, 7, none⟩) (.inl (by simp)) (.bool true) |>.setCell (p := ⟨g, 8, none⟩) (.inl (by simp)) (.string s6)
      obtain ⟨A7, cap7, rfl, -⟩ := _root_.id hr6
      have HE := Lib.hid (end_any w4.heap.size rest6.length A7 cap7 _ ((hx6.bk hb6 (by simpa using hgc.symm)).alloc (.cells #[.int .i64 0, .bool false, .int .i64 4, .string s6, .slice A6 l6.length cap6] 38) |>.drew))
      clear ho hb6 hr6 hn hs6 HS5 hz6 hx6 hp6 q54 f54 q56 f56 hk6
      go_wp2_with fail
      go_region
      all_goals
        go_wp2_with fail
        (go_at_call 32)
        refine HE.out.mono ?_
        rintro e w7 ⟨ho, hcs⟩
        have hs7 := HS6.out.quiet HF.out ho (by simp)
        rcases hcs with ⟨hn, rfl⟩ | ⟨hn, rfl⟩
        · have hl : rest6 = [] := by simpa using hn
          have HS7 := Lib.hid hs7
          clear ho hs7 hn
          go_wp2_with fail
          go_end0
          refine ⟨HS7.out.off, .inr ⟨_, rest4, v4, _, by simp only [bindP, HN1.out, HN2.out, HN3.out, HN4.out, HN5.out, HN6.out, Option.bind_some, Tl.kids, if_pos hl]; rfl, rfl, HS7.out.row, HS7.out.tr, HS7.out.ms, ?_⟩⟩
          exact MsAt.flat rfl rfl rfl rfl rfl rfl ⟨HZ2.out, Nat.zero_le _, HZ5.out, HZ6.out, Nat.zero_le _, Nat.zero_le _⟩
        · have hl : rest6 ≠ [] := by rintro rfl; simp at hn
          exact ⟨rfl, hs7.off, .inl ⟨by simp [bindP, HN1.out, HN2.out, HN3.out, HN4.out, HN5.out, HN6.out, Tl.kids, hl], rfl, ⟨_, hs7.ms, rfl⟩⟩⟩
  · have HN3 := Lib.hid hn
    have HZ3 := Lib.hid hz3
    have hs3 := (HS2.out.rd HF.out ho hb3 hr3)
    have q5 : w3.cell? ⟨g, 5, none⟩ = some (.string ⟨#[]⟩) := hs3.cell 5
    have f5 := hs3.frozen 5
    have gl := hs3.ms.lt
    have hp3 := hs3.put HF.out 5 (.string s3)
    rw [MC.put_secret] at hp3
    have HS3 := Lib.hid (hp3.new (.cells #[.int .i64 2, .bool false, .int .i64 0, .string s3, .slice A3 l3.length cap3] 38))
    clear ho hb3 hr3 hn hs3 HS2 hp3 hz3 q3 f3 hk3
    go_wp2_with fail
    go_end0
    refine ⟨HS3.out.off, .inr ⟨_, rest3, v3, _, by simp only [bindP, HN1.out, HN2.out, HN3.out, Option.bind_some]; rfl, rfl, HS3.out.row, HS3.out.tr, HS3.out.ms, ?_⟩⟩
    exact MsAt.flat rfl rfl rfl rfl rfl rfl ⟨HZ2.out, HZ3.out, Nat.zero_le _, Nat.zero_le _, Nat.zero_le _, Nat.zero_le _⟩
end Go.Proofs.YtbiglfpikfjbpaaDoor
