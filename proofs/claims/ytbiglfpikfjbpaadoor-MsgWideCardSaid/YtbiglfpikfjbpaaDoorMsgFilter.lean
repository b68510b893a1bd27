/- A message's reader: filters. -/
import Derived.Test.YtbiglfpikfjbpaaDoorMsgPieces
namespace Go.Proofs.YtbiglfpikfjbpaaDoor
open Go.RowKit
set_option maxRecDepth 100000
set_option linter.unusedVariables false
set_option linter.unusedSimpArgs false

mutual
/-- The filter of a tree. -/
def filP : Tl → Option Fl
  | .mk c k t s ks =>
    if c ≠ 2 ∨ k = (t == 7) then none
    else if t ≤ 2 then (filsP ks).map fun l => .mk t ⟨#[]⟩ ⟨#[]⟩ ⟨#[]⟩ [] ⟨#[]⟩ l
    else if t = 7 then some (.mk t s ⟨#[]⟩ ⟨#[]⟩ [] ⟨#[]⟩ [])
    else if t = 4 then (textP ks).bind fun p => (listP 16 p.2).bind fun q => (piecesP q.1).bind fun x => if q.2 = [] then some (.mk t p.1 ⟨#[]⟩ x.1 x.2.1 x.2.2 []) else none
    else if t ≤ 8 then (textP ks).bind fun p => (textP p.2).bind fun q => if q.2 = [] then some (.mk t p.1 q.1 ⟨#[]⟩ [] ⟨#[]⟩ []) else none
    else if t = 9 then some (.mk 7 ⟨#[63]⟩ ⟨#[]⟩ ⟨#[]⟩ [] ⟨#[]⟩ []) else none
def filsP : List Tl → Option (List Fl)
  | [] => some []
  | k :: ks => (filP k).bind fun f => (filsP ks).map (f :: ·)
end
def FilPost (r : Option Fl) (w : World) (e : Ending) (w' : World) : Prop :=
  Below w.heap.size w w' ∧ ((r = none ∧ ThrowsM e) ∨ ∃ (f : Fl) (c : List Value), r = some f ∧ e = .returned (.agg c.toArray) ∧ FlAt w' (fun x => w.heap.size ≤ x) f c)
/-- The memory in which readFilter begins its work. -/
def fopen (w : World) (c : Int) (k : Bool) (t : Int) (s : ByteArray) (A : Option Addr) (n cap : Nat) : World :=
  (((w.alloc (.cells #[.int .i64 c, .bool k, .int .i64 t, .string s, .slice A n cap] 38)).alloc (.cells #[.int .i64 0, .string ⟨#[]⟩, .string ⟨#[]⟩, .string ⟨#[]⟩, .slice none 0 0, .string ⟨#[]⟩, .slice none 0 0] 25)).alloc
    (.cells #[.int .i64 t, .string ⟨#[]⟩, .string ⟨#[]⟩, .string ⟨#[]⟩, .slice none 0 0, .string ⟨#[]⟩, .slice none 0 0] 25)).alloc (.cells #[.slice A n cap] 75)
theorem fopen_below (w : World) (c : Int) (k : Bool) (t : Int) (s : ByteArray) (A : Option Addr) (n cap : Nat) : Below w.heap.size w (fopen w c k t s A n cap) ∧ (fopen w c k t s A n cap).heap.size = w.heap.size + 4 :=
  ⟨((((Below.refl _ w).alloc (Nat.le_refl _) _).alloc (by simp) _).alloc (by simp; omega) _).alloc (by simp; omega) _, by simp [fopen]⟩

set_option maxHeartbeats 1000000 in
theorem filter_no (c : Int) (k : Bool) (t : Int) (s : ByteArray) (A : Option Addr) (n cap : Nat) (w : World) (h : c ≠ 2 ∨ k = (t == 7)) :
    Calls Tryd.prog 82 #[.agg #[.int .i64 c, .bool k, .int .i64 t, .string s, .slice A n cap]] w fun e w' => Below w.heap.size w w' ∧ ThrowsM e := by
  have hB := (fopen_below w c k t s A n cap).1
  have HB := Lib.hid hB
  clear hB
  have hcs : (c == 2) = false ∨ ((c == 2) = true ∧ (k == (t == 7)) = true) := by
    rcases h with h | h
    · exact .inl (by simpa using h)
    · by_cases hc : c = 2
      · exact .inr ⟨by simpa using hc, by simpa using h⟩
      · exact .inl (by simpa using hc)
  clear h
  rcases hcs with h0 | ⟨h0, h1⟩
  · have h0' : (c != 2) = true := by rw [bne, h0]; rfl
    go_enter Tryd.func82, Tryd.ntmps82
    go_wp2_with fail
    exact ⟨rfl, HB.out, rfl⟩
  · have h0' : (c != 2) = false := by rw [bne, h0]; rfl
    go_enter Tryd.func82, Tryd.ntmps82
    go_wp2_with fail
    exact ⟨rfl, HB.out, rfl⟩
theorem fl_flat {w : World} {S : Nat → Prop} {t : Int} {a v f l : ByteArray} (ht : (Lit.int .i64 t).wf = true) (ha : a.size ≤ maxLen) (hv : v.size ≤ maxLen) (hf : f.size ≤ maxLen) (hl : l.size ≤ maxLen) :
    FlAt w S (.mk t a v f [] l []) [.int .i64 t, .string a, .string v, .string f, .slice none 0 0, .string l, .slice none 0 0] := by
  unfold FlAt
  exact ⟨Rw.none, Rw.none, rfl, ⟨ht, ha, hv, hf, hl⟩, RowOf.nil _ _, ⟨rfl, Nat.le_refl _, Nat.zero_le _⟩, by unfold FlsAt; trivial⟩
abbrev fzero : Obj := .cells #[.int .i64 0, .string ⟨#[]⟩, .string ⟨#[]⟩, .string ⟨#[]⟩, .slice none 0 0, .string ⟨#[]⟩, .slice none 0 0] 25

set_option maxHeartbeats 1000000 in
theorem filter_has (s : ByteArray) (A : Option Addr) (n cap : Nat) (w : World) (hs : s.size ≤ maxLen) :
    Calls Tryd.prog 82 #[.agg #[.int .i64 2, .bool false, .int .i64 7, .string s, .slice A n cap]] w (FilPost (some (.mk 7 s ⟨#[]⟩ ⟨#[]⟩ [] ⟨#[]⟩ [])) w) := by
  have HB := Lib.hid (fopen_below w 2 false 7 s A n cap).1
  have HS := Lib.hid hs
  clear hs
  go_enter Tryd.func82, Tryd.ntmps82
  go_wp2_with fail
  refine bodyPost_ret (v := .agg #[.int .i64 7, .string s, .string ⟨#[]⟩, .string ⟨#[]⟩, .slice none 0 0, .string ⟨#[]⟩, .slice none 0 0]) (by simp [results, Tryd.results82, go_sem]) rfl ⟨?_, .inr ⟨_, [.int .i64 7, .string s, .string ⟨#[]⟩, .string ⟨#[]⟩, .slice none 0 0, .string ⟨#[]⟩, .slice none 0 0], rfl, rfl, fl_flat rfl HS.out (Nat.zero_le _) (Nat.zero_le _) (Nat.zero_le _)⟩⟩
  exact ((((Below.refl _ _).alloc (Nat.le_refl _) _).alloc (by simp) _).alloc (by simp; omega) _).alloc (by simp; omega) _
set_option maxHeartbeats 1000000 in
theorem filter_same (A : Option Addr) (s : ByteArray) (n cap : Nat) (w : World) :
    Calls Tryd.prog 82 #[.agg #[.int .i64 2, .bool true, .int .i64 9, .string s, .slice A n cap]] w (FilPost (some (.mk 7 ⟨#[63]⟩ ⟨#[]⟩ ⟨#[]⟩ [] ⟨#[]⟩ [])) w) := by
  have HB := Lib.hid (fopen_below w 2 true 9 s A n cap).1
  go_enter Tryd.func82, Tryd.ntmps82
  go_wp2_with fail
  refine bodyPost_ret (v := .agg #[.int .i64 7, .string ⟨#[63]⟩, .string ⟨#[]⟩, .string ⟨#[]⟩, .slice none 0 0, .string ⟨#[]⟩, .slice none 0 0]) (by simp [results, Tryd.results82, go_sem]) rfl ⟨?_, .inr ⟨_, [.int .i64 7, .string ⟨#[63]⟩, .string ⟨#[]⟩, .string ⟨#[]⟩, .slice none 0 0, .string ⟨#[]⟩, .slice none 0 0], rfl, rfl, fl_flat rfl (by decide) (Nat.zero_le _) (Nat.zero_le _) (Nat.zero_le _)⟩⟩
  exact ((((Below.refl _ _).alloc (Nat.le_refl _) _).alloc (by simp) _).alloc (by simp; omega) _).alloc (by simp; omega) _
set_option maxHeartbeats 1000000 in
theorem filter_far (t : Int) (A : Option Addr) (s : ByteArray) (n cap : Nat) (w : World) (h : 9 < t) :
    Calls Tryd.prog 82 #[.agg #[.int .i64 2, .bool true, .int .i64 t, .string s, .slice A n cap]] w fun e w' => Below w.heap.size w w' ∧ ThrowsM e := by
  have HB := Lib.hid (fopen_below w 2 true t s A n cap).1
  have t1 : (t == 7) = false := by simp; omega
  have t2 : decide (t ≤ 2) = false := by simp; omega
  have t3 : (t == 4) = false := by simp; omega
  have t4 : decide (t ≤ 8) = false := by simp; omega
  have t5 : (t == 9) = false := by simp; omega
  clear h
  go_enter Tryd.func82, Tryd.ntmps82
  go_wp2_with fail
  exact ⟨rfl, HB.out, rfl⟩
/-- The row and the filter that readFilter opens. -/
theorem fopen_st {w : World} {S : Nat → Prop} {c t : Int} {k : Bool} {s : ByteArray} {ks : List Tl} {A : Option Addr} {cap : Nat} (hl : ks.length ≤ cap ∧ cap ≤ maxLen) (hk : KsAt w S ks A 0) :
    Fix (fun x => S x ∧ x < w.heap.size) (w.heap.size + 3) (w.heap.size + 2) (fopen w c k t s A ks.length cap).heap.size ∧
    St (fopen w c k t s A ks.length cap) (fun x => S x ∧ x < w.heap.size) (w.heap.size + 3) (w.heap.size + 2) 25 (fopen w c k t s A ks.length cap) (.slice A ks.length cap) ks (fcells t ⟨#[]⟩ ⟨#[]⟩ ⟨#[]⟩ (.slice none 0 0) ⟨#[]⟩ (.slice none 0 0)) ∧
    Bk (fopen w c k t s A ks.length cap) (w.heap.size + 1) 25 (fcells 0 ⟨#[]⟩ ⟨#[]⟩ ⟨#[]⟩ (.slice none 0 0) ⟨#[]⟩ (.slice none 0 0)) := by
  obtain ⟨hb, hsz⟩ := fopen_below w c k t s A ks.length cap
  have hr : TRow w (fun x => S x ∧ x < w.heap.size) (.slice A ks.length cap) ks := (TRow.of_kids hl hk).keep (Nat.le_refl _) (fun _ _ _ => rfl) (fun _ h hl => ⟨h, hl⟩)
  refine ⟨⟨by omega, by omega, by omega, fun x hx => ⟨by have := hx.2; omega, by have := hx.2; omega, by have := hx.2; omega⟩⟩, ⟨Off.refl _ _, ?_, hr.below hb, ?_⟩, ?_⟩
  · have h := Bk.new (((w.alloc (.cells #[.int .i64 c, .bool k, .int .i64 t, .string s, .slice A ks.length cap] 38)).alloc fzero).alloc (.cells #[.int .i64 t, .string ⟨#[]⟩, .string ⟨#[]⟩, .string ⟨#[]⟩, .slice none 0 0, .string ⟨#[]⟩, .slice none 0 0] 25)) 75 #[.slice A ks.length cap]
    simpa [fopen] using h
  · have h := (Bk.new ((w.alloc (.cells #[.int .i64 c, .bool k, .int .i64 t, .string s, .slice A ks.length cap] 38)).alloc fzero) 25 #[.int .i64 t, .string ⟨#[]⟩, .string ⟨#[]⟩, .string ⟨#[]⟩, .slice none 0 0, .string ⟨#[]⟩, .slice none 0 0]).alloc (.cells #[.slice A ks.length cap] 75)
    simpa [fopen, fcells] using h
  · have h := ((Bk.new (w.alloc (.cells #[.int .i64 c, .bool k, .int .i64 t, .string s, .slice A ks.length cap] 38)) 25 #[.int .i64 0, .string ⟨#[]⟩, .string ⟨#[]⟩, .string ⟨#[]⟩, .slice none 0 0, .string ⟨#[]⟩, .slice none 0 0]).alloc (.cells #[.int .i64 t, .string ⟨#[]⟩, .string ⟨#[]⟩, .string ⟨#[]⟩, .slice none 0 0, .string ⟨#[]⟩, .slice none 0 0] 25)).alloc (.cells #[.slice A ks.length cap] 75)
    simpa [fopen, fcells] using h

theorem fopen_end {w w' : World} {c t : Int} {k : Bool} {s : ByteArray} {A : Option Addr} {n cap : Nat} (h : Off [w.heap.size + 3, w.heap.size + 2] (fopen w c k t s A n cap) w') : Below w.heap.size w w' := by
  obtain ⟨hb, hsz⟩ := fopen_below w c k t s A n cap
  exact hb.trans (h.below hb.size (by simp))
/-- The filter's cells into the result's block. -/
theorem fres_below {w w' : World} (h : Below w.heap.size w w') (v0 v1 v2 v3 v4 v5 v6 : Value) :
    Below w.heap.size w (((((((w'.setCell ⟨w.heap.size + 1, 0, none⟩ v0).setCell ⟨w.heap.size + 1, 1, none⟩ v1).setCell ⟨w.heap.size + 1, 2, none⟩ v2).setCell ⟨w.heap.size + 1, 3, none⟩ v3).setCell ⟨w.heap.size + 1, 4, none⟩ v4).setCell ⟨w.heap.size + 1, 5, none⟩ v5).setCell ⟨w.heap.size + 1, 6, none⟩ v6) :=
  ((((((h.setCell (by simp) _).setCell (by simp) _).setCell (by simp) _).setCell (by simp) _).setCell (by simp) _).setCell (by simp) _).setCell (by simp) _
theorem fres_off (w' : World) (b : Nat) (v0 v1 v2 v3 v4 v5 v6 : Value) :
    Off [b] w' (((((((w'.setCell ⟨b, 0, none⟩ v0).setCell ⟨b, 1, none⟩ v1).setCell ⟨b, 2, none⟩ v2).setCell ⟨b, 3, none⟩ v3).setCell ⟨b, 4, none⟩ v4).setCell ⟨b, 5, none⟩ v5).setCell ⟨b, 6, none⟩ v6) :=
  (((((((Off.refl [b] w').setCell (.inl (by simp)) _).setCell (.inl (by simp)) _).setCell (.inl (by simp)) _).setCell (.inl (by simp)) _).setCell (.inl (by simp)) _).setCell (.inl (by simp)) _).setCell (.inl (by simp)) _
theorem Bk.seven {w : World} {g : Nat} {T : TypeId} {t : Int} {a v f l : ByteArray} {u x : Value} (h : Bk w g T (fcells t a v f u l x)) :
    w.cell? ⟨g, 0, none⟩ = some (.int .i64 t) ∧ w.cell? ⟨g, 1, none⟩ = some (.string a) ∧ w.cell? ⟨g, 2, none⟩ = some (.string v) ∧ w.cell? ⟨g, 3, none⟩ = some (.string f) ∧ w.cell? ⟨g, 4, none⟩ = some u ∧ w.cell? ⟨g, 5, none⟩ = some (.string l) ∧ w.cell? ⟨g, 6, none⟩ = some x ∧
    w.frozen? ⟨g, 0, none⟩ = false ∧ w.frozen? ⟨g, 1, none⟩ = false ∧ w.frozen? ⟨g, 2, none⟩ = false ∧ w.frozen? ⟨g, 3, none⟩ = false ∧ w.frozen? ⟨g, 4, none⟩ = false ∧ w.frozen? ⟨g, 5, none⟩ = false ∧ w.frozen? ⟨g, 6, none⟩ = false :=
  ⟨h.cell 0, h.cell 1, h.cell 2, h.cell 3, h.cell 4, h.cell 5, h.cell 6, h.frozen 0, h.frozen 1, h.frozen 2, h.frozen 3, h.frozen 4, h.frozen 5, h.frozen 6⟩

def pairP (t : Int) (ks : List Tl) : Option Fl := (textP ks).bind fun p => (textP p.2).bind fun q => if q.2 = [] then some (.mk t p.1 q.1 ⟨#[]⟩ [] ⟨#[]⟩ []) else none
set_option maxHeartbeats 4000000 in
theorem filter_pair (t : Int) (ks : List Tl) (S : Nat → Prop) (A : Option Addr) (s : ByteArray) (cap : Nat) (w : World) (h2 : 2 < t) (h8 : t ≤ 8) (h7 : t ≠ 7) (h4 : t ≠ 4) (hwf : (Lit.int .i64 t).wf = true) (hl : ks.length ≤ cap ∧ cap ≤ maxLen) (hk : KsAt w S ks A 0) :
    Calls Tryd.prog 82 #[.agg #[.int .i64 2, .bool true, .int .i64 t, .string s, .slice A ks.length cap]] w (FilPost (pairP t ks) w) := by
  obtain ⟨hB, hsz⟩ := fopen_below w 2 true t s A ks.length cap
  have HB := Lib.hid hB
  obtain ⟨hF, hSt, hr1⟩ := fopen_st (c := 2) (k := true) (t := t) (s := s) hl hk
  have HF := Lib.hid hF
  have HS := Lib.hid hSt
  have HR1 := Lib.hid hr1
  have HSZ := Lib.hid hsz
  have HWF := Lib.hid hwf
  have t1 : (t == 7) = false := by simp; omega
  have t2 : decide (t ≤ 2) = false := by simp; omega
  have t3 : (t == 4) = false := by simp; omega
  have t4 : decide (t ≤ 8) = true := by simp; omega
  clear h2 h8 h7 h4 hwf hl hk hF hSt hB hr1 hsz
  go_enter Tryd.func82, Tryd.ntmps82
  go_wp2_with fail
  (go_at_call 53)
  refine (text_any (w.heap.size + 3) _ ks _ _ HS.out.row HS.out.tr HF.out.nb).mono ?_
  rintro e w1 ⟨ho, hcs⟩
  rcases hcs with ⟨hn, rfl⟩ | ⟨n1, rest1, v1, hn, ⟨hz1, rfl⟩, hb1, hr1⟩
  · exact ⟨rfl, fopen_end (HS.out.off.trans (ho.mono (by simp))), .inl ⟨by simp [pairP, hn], rfl⟩⟩
  have HN1 := Lib.hid hn
  have HZ1 := Lib.hid hz1
  have hs1 := HS.out.rd HF.out ho hb1 hr1
  have HS1 := Lib.hid hs1
  clear ho hb1 hr1 hn hs1 HS hz1
  go_wp2_with fail
  (go_at_call 53)
  refine (text_any (w.heap.size + 3) _ rest1 _ _ HS1.out.row HS1.out.tr HF.out.nb).mono ?_
  rintro e w2 ⟨ho, hcs⟩
  rcases hcs with ⟨hn, rfl⟩ | ⟨n2, rest2, v2, hn, ⟨hz2, rfl⟩, hb2, hr2⟩
  · exact ⟨rfl, fopen_end (HS1.out.off.trans (ho.mono (by simp))), .inl ⟨by simp [pairP, HN1.out, hn], rfl⟩⟩
  have HN2 := Lib.hid hn
  have HZ2 := Lib.hid hz2
  have hs2 := HS1.out.rd HF.out ho hb2 hr2
  have q1 : w2.cell? ⟨w.heap.size + 2, 1, none⟩ = some (.string ⟨#[]⟩) := hs2.cell 1
  have q2 : w2.cell? ⟨w.heap.size + 2, 2, none⟩ = some (.string ⟨#[]⟩) := hs2.cell 2
  have f1 := hs2.frozen 1
  have f2 := hs2.frozen 2
  have hp2 : St (fopen w 2 true t s A ks.length cap) _ _ _ 25 _ v2 rest2 (fcells t n1 n2 ⟨#[]⟩ (.slice none 0 0) ⟨#[]⟩ (.slice none 0 0)) := (hs2.put HF.out 1 (.string n1)).put HF.out 2 (.string n2)
  have HS2 := Lib.hid hp2
  obtain ⟨A2, cap2, hv2, -⟩ := _root_.id hp2.tr
  subst hv2
  have HE := Lib.hid (end_any (w.heap.size + 3) rest2.length A2 cap2 _ HS2.out.row)
  clear ho hb2 hr2 hn hs2 HS1 hz2 hp2
  go_wp2_with fail
  (go_at_call 32)
  refine HE.out.mono ?_
  rintro e w3 ⟨ho, hcs⟩
  have hs3 := HS2.out.quiet HF.out ho (by simp)
  rcases hcs.symm with ⟨hn, rfl⟩ | ⟨hn, rfl⟩
  · have hl : rest2 ≠ [] := by intro h; rw [h] at hn; simp at hn
    exact ⟨rfl, fopen_end hs3.off, .inl ⟨by simp [pairP, HN1.out, HN2.out, hl], rfl⟩⟩
  have hl : rest2 = [] := by simpa using hn
  have HL := Lib.hid hl
  have HS3 := Lib.hid hs3
  have hb0 := hs3.off.bk HR1.out (by simp)
  have hlt := hb0.lt
  have hlt2 := hs3.ms.lt
  obtain ⟨x0, x1, x2, x3, x4, x5, x6, -⟩ := hs3.ms.seven
  obtain ⟨y0, y1, y2, y3, y4, y5, y6, g0, g1, g2, g3, g4, g5, g6⟩ := hb0.seven
  clear hl hs3 ho hn HS2 q1 q2 f1 f2 hb0
  go_wp2_with fail
  refine bodyPost_ret (v := .agg #[.int .i64 t, .string n1, .string n2, .string ⟨#[]⟩, .slice none 0 0, .string ⟨#[]⟩, .slice none 0 0]) (by simp [results, Tryd.results82, go_sem, y0, y1, y2, y3, y4, y5, y6, hlt]) rfl
    ⟨fres_below (fopen_end HS3.out.off) _ _ _ _ _ _ _, .inr ⟨_, [.int .i64 t, .string n1, .string n2, .string ⟨#[]⟩, .slice none 0 0, .string ⟨#[]⟩, .slice none 0 0], by simp [pairP, HN1.out, HN2.out, HL.out], rfl, fl_flat HWF.out HZ1.out HZ2.out (Nat.zero_le _) (Nat.zero_le _)⟩⟩

def partP (ks : List Tl) : Option Fl := (textP ks).bind fun p => (listP 16 p.2).bind fun q => (piecesP q.1).bind fun x => if q.2 = [] then some (.mk 4 p.1 ⟨#[]⟩ x.1 x.2.1 x.2.2 []) else none
set_option maxHeartbeats 4000000 in
theorem filter_part (ks : List Tl) (S : Nat → Prop) (A : Option Addr) (s : ByteArray) (cap : Nat) (w : World) (hfew : Few ks) (hl : ks.length ≤ cap ∧ cap ≤ maxLen) (hk : KsAt w S ks A 0) :
    Calls Tryd.prog 82 #[.agg #[.int .i64 2, .bool true, .int .i64 4, .string s, .slice A ks.length cap]] w (FilPost (partP ks) w) := by
  obtain ⟨hB, hsz⟩ := fopen_below w 2 true 4 s A ks.length cap
  have HB := Lib.hid hB
  obtain ⟨hF, hSt, hr1⟩ := fopen_st (c := 2) (k := true) (t := 4) (s := s) hl hk
  have HF := Lib.hid hF
  have HS := Lib.hid hSt
  have HR1 := Lib.hid hr1
  have HSZ := Lib.hid hsz
  have HFEW := Lib.hid hfew
  clear hl hk hF hSt hB hr1 hsz hfew
  go_enter Tryd.func82, Tryd.ntmps82
  go_wp2_with fail
  (go_at_call 53)
  refine (text_any (w.heap.size + 3) _ ks _ _ HS.out.row HS.out.tr HF.out.nb).mono ?_
  rintro e w1 ⟨ho, hcs⟩
  rcases hcs with ⟨hn, rfl⟩ | ⟨n1, rest1, v1, hn, ⟨hz1, rfl⟩, hb1, hr1⟩
  · exact ⟨rfl, fopen_end (HS.out.off.trans (ho.mono (by simp))), .inl ⟨by simp [partP, hn], rfl⟩⟩
  have HN1 := Lib.hid hn
  have HZ1 := Lib.hid hz1
  have hs1 := HS.out.rd HF.out ho hb1 hr1
  have q1 : w1.cell? ⟨w.heap.size + 2, 1, none⟩ = some (.string ⟨#[]⟩) := hs1.cell 1
  have f1 := hs1.frozen 1
  have hp1 : St (fopen w 2 true 4 s A ks.length cap) _ _ _ 25 _ v1 rest1 (fcells 4 n1 ⟨#[]⟩ ⟨#[]⟩ (.slice none 0 0) ⟨#[]⟩ (.slice none 0 0)) := hs1.put HF.out 1 (.string n1)
  have HS1 := Lib.hid hp1
  clear ho hb1 hr1 hn hs1 HS hz1 hp1
  go_wp2_with fail
  (go_at_call 52)
  refine (list_any 16 (w.heap.size + 3) _ rest1 _ _ HS1.out.row HS1.out.tr HF.out.nb).mono ?_
  rintro e w2 ⟨ho, hcs⟩
  rcases hcs with ⟨hn, rfl⟩ | ⟨l2, rest2, v2, hn, ⟨c2, vl2, rfl, hc2, hbc2, hrc2⟩, hb2, hr2⟩
  · exact ⟨rfl, fopen_end (HS1.out.off.trans (ho.mono (by simp))), .inl ⟨by simp [partP, HN1.out, hn], rfl⟩⟩
  have HN2 := Lib.hid hn
  have hle := HS1.out.off.size
  have HA := Lib.hid (show Ax (fun x => S x ∧ x < w.heap.size) (fopen w 2 true 4 s A ks.length cap).heap.size c2 w2 vl2 l2 from ⟨hbc2, hrc2, by omega⟩)
  have hs2 := HS1.out.rd HF.out ho hb2 hr2
  have HS2 := Lib.hid hs2
  have HC := Lib.hid hc2
  clear ho hb2 hr2 hn hs2 HS1 q1 f1 hbc2 hrc2 hc2 hle
  go_wp2_with fail
  (go_at_call 88)
  have hFx : Fix (fun x => S x ∧ x < w.heap.size) c2 (w.heap.size + 2) w2.heap.size := by
    have h1 := HA.out.le
    have h2 := HSZ.out
    have h3 := HA.out.row.lt
    have h4 := HS2.out.ms.lt
    exact ⟨by omega, h3, h4, fun x hx => ⟨by have := hx.2; omega, by have := hx.2; omega, by have := hx.2; omega⟩⟩
  refine (pieces_any 4 n1 c2 (w.heap.size + 2) _ l2 _ w2 hFx HA.out.row HA.out.tr ((HFEW.out.text HN1.out).list HN2.out).1.1 HS2.out.ms).mono ?_
  rintro e w3 ⟨ho, hcs⟩
  have hoff : Off [w.heap.size + 3, w.heap.size + 2] (fopen w 2 true 4 s A ks.length cap) w3 := HS2.out.off.then ho (by have := HA.out.le; simp; omega)
  rcases hcs with ⟨hn, rfl⟩ | ⟨f3, l3, az3, q3, hn, hzf, hzl, rfl, hg3, hq3⟩
  · exact ⟨rfl, fopen_end hoff, .inl ⟨by simp [partP, HN1.out, HN2.out, hn], rfl⟩⟩
  have HN3 := Lib.hid hn
  have HZF := Lib.hid hzf
  have HZL := Lib.hid hzl
  have HQ3 := Lib.hid hq3
  have hne : (w.heap.size + 3) ∉ [c2, w.heap.size + 2] := by have := HA.out.le; have := HSZ.out; simp; omega
  have hs3 : St (fopen w 2 true 4 s A ks.length cap) (fun x => S x ∧ x < w.heap.size) (w.heap.size + 3) (w.heap.size + 2) 25 w3 v2 rest2 (fcells 4 n1 ⟨#[]⟩ f3 (.slice q3.A q3.n q3.c) l3 (.slice none 0 0)) :=
    ⟨hoff, ho.bk HS2.out.row hne, HS2.out.tr.keep ho.size (fun x hx hlt => ho.block x hlt (by have := HA.out.le; have := HSZ.out; have := hx.2; simp; omega)) (fun _ h _ => h), hg3⟩
  have HS3 := Lib.hid hs3
  have HSW := Lib.hid HS2.out.off.size
  obtain ⟨A3, cap3, hv3, -⟩ := _root_.id hs3.tr
  subst hv3
  have HE := Lib.hid (end_any (w.heap.size + 3) rest2.length A3 cap3 _ HS3.out.row)
  clear ho hn hs3 HS2 hzf hzl hq3 hg3 hoff hne hFx
  go_wp2_with fail
  (go_at_call 32)
  refine HE.out.mono ?_
  rintro e w4 ⟨ho, hcs⟩
  have hs4 := HS3.out.quiet HF.out ho (by simp)
  have hq4 := HQ3.out.keep strAt_stable (w' := w4) ho.size (fun x hx hlt => ho.block x hlt (by simp)) (fun _ h _ => h)
  rcases hcs.symm with ⟨hn, rfl⟩ | ⟨hn, rfl⟩
  · have hl : rest2 ≠ [] := by intro h; rw [h] at hn; simp at hn
    exact ⟨rfl, fopen_end hs4.off, .inl ⟨by simp [partP, HN1.out, HN2.out, HN3.out, hl], rfl⟩⟩
  have hl : rest2 = [] := by simpa using hn
  have HL := Lib.hid hl
  have HS4 := Lib.hid hs4
  have HQ4 := Lib.hid hq4
  have hb0 := hs4.off.bk HR1.out (by simp)
  have hlt := hb0.lt
  have hlt2 := hs4.ms.lt
  obtain ⟨x0, x1, x2, x3, x4, x5, x6, -⟩ := hs4.ms.seven
  obtain ⟨y0, y1, y2, y3, y4, y5, y6, g0, g1, g2, g3, g4, g5, g6⟩ := hb0.seven
  clear hl hs4 ho hn HS3 hb0 hq4
  go_wp2_with fail
  refine bodyPost_ret (v := .agg #[.int .i64 4, .string n1, .string ⟨#[]⟩, .string f3, .slice q3.A q3.n q3.c, .string l3, .slice none 0 0]) (by simp [results, Tryd.results82, go_sem, y0, y1, y2, y3, y4, y5, y6, hlt]) rfl
    ⟨fres_below (fopen_end HS4.out.off) _ _ _ _ _ _ _, .inr ⟨_, [.int .i64 4, .string n1, .string ⟨#[]⟩, .string f3, .slice q3.A q3.n q3.c, .string l3, .slice none 0 0], by simp [partP, HN1.out, HN2.out, HN3.out, HL.out]; rfl, rfl, ?_⟩⟩
  unfold FlAt
  refine ⟨q3, Rw.none, rfl, ⟨rfl, HZ1.out, Nat.zero_le _, HZF.out, HZL.out⟩, ?_, ⟨rfl, Nat.le_refl _, Nat.zero_le _⟩, by unfold FlsAt; trivial⟩
  have hoo := fres_off w4 (w.heap.size + 1) (.int .i64 4) (.string n1) (.string ⟨#[]⟩) (.string f3) (.slice q3.A q3.n q3.c) (.string l3) (.slice none 0 0)
  exact HQ4.out.keep strAt_stable hoo.size (fun x hx hlt => hoo.block x hlt (by have := HSW.out; have := HSZ.out; simp; omega)) (fun x hx _ => by have := HSW.out; have := HSZ.out; omega)
end Go.Proofs.YtbiglfpikfjbpaaDoor
