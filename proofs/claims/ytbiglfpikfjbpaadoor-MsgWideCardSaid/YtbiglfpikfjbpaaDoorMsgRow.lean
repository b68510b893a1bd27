/- A message's reader: a row of trees that is taken one behind the other. Contracts: is, may. -/
import Derived.Test.YtbiglfpikfjbpaaDoorMsgBare
import Derived.StillTailTactics
namespace Go.Proofs.YtbiglfpikfjbpaaDoor
open Go.RowKit
set_option maxRecDepth 100000
set_option linter.unusedVariables false
set_option linter.unusedSimpArgs false

/-- A slice that reads as trees. -/
def TRow (w : World) (S : Nat → Prop) (v : Value) (ks : List Tl) : Prop :=
  ∃ (A : Option Addr) (cap : Nat), v = .slice A ks.length cap ∧ ks.length ≤ cap ∧ cap ≤ maxLen ∧ ∀ (i : Nat) (h : i < ks.length), ∃ (b o : Nat) (c0 c1 c2 c3 c4 : Value), A = some ⟨b, o, none⟩ ∧ (S b ∧ b < w.heap.size) ∧
    w.cell? ⟨b, o + i * 5, none⟩ = some c0 ∧ w.cell? ⟨b, o + i * 5 + 1, none⟩ = some c1 ∧ w.cell? ⟨b, o + i * 5 + 2, none⟩ = some c2 ∧ w.cell? ⟨b, o + i * 5 + 3, none⟩ = some c3 ∧ w.cell? ⟨b, o + i * 5 + 4, none⟩ = some c4 ∧ TlAt w S ks[i] #[c0, c1, c2, c3, c4]
theorem TRow.of_kids {w : World} {S : Nat → Prop} {ks : List Tl} {A : Option Addr} {cap : Nat} (hl : ks.length ≤ cap ∧ cap ≤ maxLen) (h : KsAt w S ks A 0) : TRow w S (.slice A ks.length cap) ks :=
  ⟨A, cap, rfl, hl.1, hl.2, fun i hi => by
    have := h.get i hi
    rw [Nat.zero_add] at this
    exact this⟩
theorem TRow.keep {w w' : World} {S T : Nat → Prop} {v : Value} {ks : List Tl} (h : TRow w S v ks) (hs : w.heap.size ≤ w'.heap.size) (hk : ∀ b, S b → b < w.heap.size → w'.heap[b]? = w.heap[b]?) (hT : ∀ b, S b → b < w.heap.size → T b) : TRow w' T v ks := by
  obtain ⟨A, cap, hv, h1, h2, h3⟩ := h
  refine ⟨A, cap, hv, h1, h2, fun i hi => ?_⟩
  obtain ⟨b, o, c0, c1, c2, c3, c4, hA, hlt, q0, q1, q2, q3, q4, ht⟩ := h3 i hi
  have hc : ∀ o', w'.cell? ⟨b, o', none⟩ = w.cell? ⟨b, o', none⟩ := fun o' => World.cell?_of_block (a := ⟨b, o', none⟩) (hk b hlt.1 hlt.2)
  exact ⟨b, o, c0, c1, c2, c3, c4, hA, ⟨hT b hlt.1 hlt.2, Nat.lt_of_lt_of_le hlt.2 hs⟩, (hc _).trans q0, (hc _).trans q1, (hc _).trans q2, (hc _).trans q3, (hc _).trans q4, TlAt.keep hs hk hT _ _ ht⟩
theorem TRow.below {w w' : World} {S : Nat → Prop} {v : Value} {ks : List Tl} (h : TRow w S v ks) (hb : Below w.heap.size w w') : TRow w' S v ks :=
  h.keep hb.size (fun b _ hlt => hb.block b hlt) (fun _ h _ => h)
/-- The tail. -/
theorem TRow.tail {w : World} {S : Nat → Prop} {b o cap : Nat} {k : Tl} {ks : List Tl} (h : TRow w S (.slice (some ⟨b, o, none⟩) (ks.length + 1) cap) (k :: ks)) :
    TRow w S (.slice (if cap = 1 then some ⟨b, o, none⟩ else some ⟨b, o + 5, none⟩) ks.length (cap - 1)) ks := by
  obtain ⟨A, cap', hv, h1, h2, h3⟩ := h
  injection hv with hA _ hc
  subst hA
  subst hc
  refine ⟨_, _, rfl, by simp at h1; omega, by omega, fun i hi => ?_⟩
  obtain ⟨b', o', c0, c1, c2, c3, c4, hA, hlt, q0, q1, q2, q3, q4, ht⟩ := h3 (i + 1) (by simpa using hi)
  injection hA with hA
  injection hA with hb ho
  subst hb ho
  have hne : cap ≠ 1 := by simp at h1; omega
  rw [if_neg hne]
  have e : o + (i + 1) * 5 = o + 5 + i * 5 := by omega
  rw [e] at q0 q1 q2 q3 q4
  exact ⟨b, o + 5, c0, c1, c2, c3, c4, rfl, hlt, q0, q1, q2, q3, q4, by simpa using ht⟩

/-- Is it of this class and tag, made of values or not? -/
def Tl.isB : Tl → Int → Int → Bool → Bool
  | .mk c k t _ _, cls, tag, cons => c == cls && (t == tag && k == cons)
theorem is_cells (c t : Int) (k : Bool) (b v : Value) (cls tag : Int) (cons : Bool) (w : World) :
    Calls Tryd.prog 26 #[.agg #[.int .i64 c, .bool k, .int .i64 t, b, v], .int .i64 cls, .int .i64 tag, .bool cons] w (TellsQ (c == cls && (t == tag && k == cons)) w) := by
  obtain ⟨q, hq⟩ : ∃ q, q = (c == cls && (t == tag && k == cons)) := ⟨_, rfl⟩
  rw [← hq]
  have hcs : ((c == cls) = false ∧ Hid (q = false)) ∨ ((c == cls) = true ∧ (t == tag) = false ∧ Hid (q = false)) ∨ ((c == cls) = true ∧ (t == tag) = true ∧ Hid (q = (k == cons))) := by
    cases h1 : (c == cls) <;> cases h2 : (t == tag) <;> rw [h1, h2] at hq <;> simp at hq <;> simp [hq, Hid]
  clear hq
  rcases hcs with ⟨q0, HB⟩ | ⟨q0, q1, HB⟩ | ⟨q0, q1, HB⟩
  all_goals
    go_enter Tryd.func26, Tryd.ntmps26
    go_wp2_with fail
    go_ret
    exact tellsQ_of HB.out ((Below.refl _ w).alloc (Nat.le_refl _) _)

/-- What may leaves: the row, a value taken or none. -/
def MayPost (b : Nat) (S : Nat → Prop) (ks : List Tl) (v : Value) (q : Bool) (w : World) (e : Ending) (w' : World) : Prop :=
  Off [b] w w' ∧ ((q = false ∧ e = .returned (.tuple #[.agg (flat 0 0 ⟨#[]⟩), .bool false]) ∧ Bk w' b 75 #[v]) ∨
    (q = true ∧ ∃ (k : Tl) (rest : List Tl) (cs : Array Value) (v' : Value), ks = k :: rest ∧ e = .returned (.tuple #[.agg cs, .bool true]) ∧ Bk w' b 75 #[v'] ∧ TlAt w' S k cs ∧ TRow w' S v' rest))
def headIs (ks : List Tl) (cls tag : Int) (cons : Bool) : Bool := match ks with | [] => false | k :: _ => k.isB cls tag cons

set_option maxHeartbeats 4000000 in
theorem may_nil (b : Nat) (A : Option Addr) (cap : Nat) (S : Nat → Prop) (cls tag : Int) (cons : Bool) (w : World) (hb : Bk w b 75 #[.slice A 0 cap]) :
    Calls Tryd.prog 30 #[.pointer (some ⟨b, 0, none⟩), .int .i64 cls, .int .i64 tag, .bool cons] w (MayPost b S [] (.slice A 0 cap) false w) := by
  have HB := Lib.hid hb
  have c0 : w.cell? ⟨b, 0, none⟩ = some (.slice A 0 cap) := by simpa using hb.cell 0
  have hlt := hb.lt
  clear hb
  go_enter Tryd.func30, Tryd.ntmps30
  go_wp2_with fail
  refine bodyPost_ret (v := .tuple #[.agg (flat 0 0 ⟨#[]⟩), .bool false]) (by simp [results, Tryd.results30, go_sem, flat]) rfl ⟨?_, .inl ⟨rfl, rfl, ?_⟩⟩
  · exact (Off.refl [b] w).alloc _
  · exact HB.out.alloc _

set_option maxHeartbeats 4000000 in
theorem may_no (b b0 o cap : Nat) (k : Tl) (rest : List Tl) (S : Nat → Prop) (cls tag : Int) (cons : Bool) (w : World) (hb : Bk w b 75 #[.slice (some ⟨b0, o, none⟩) (rest.length + 1) cap]) (hr : TRow w S (.slice (some ⟨b0, o, none⟩) (rest.length + 1) cap) (k :: rest)) (hq : k.isB cls tag cons = false) :
    Calls Tryd.prog 30 #[.pointer (some ⟨b, 0, none⟩), .int .i64 cls, .int .i64 tag, .bool cons] w (MayPost b S (k :: rest) (.slice (some ⟨b0, o, none⟩) (rest.length + 1) cap) false w) := by
  have HB := Lib.hid hb
  have c0 : w.cell? ⟨b, 0, none⟩ = some (.slice (some ⟨b0, o, none⟩) (rest.length + 1) cap) := by simpa using hb.cell 0
  have hlt := hb.lt
  obtain ⟨A, cap', hv, h1, h2, h3⟩ := hr
  obtain ⟨bb, oo, x0, x1, x2, x3, x4, hA, hS, q0, q1, q2, q3, q4, ht⟩ := h3 0 (by simp)
  injection hv with hv1 hv2 hv3
  subst hv1 hv3
  injection hA with hA
  injection hA with hA1 hA2
  subst hA1 hA2
  obtain ⟨tc, tk, tt, tb, tks⟩ := k
  simp only [List.getElem_cons_zero] at ht
  unfold TlAt at ht
  obtain ⟨kA, kc, hcs, hkk⟩ := ht
  simp only [Array.mk.injEq, List.cons.injEq, and_true] at hcs
  obtain ⟨rfl, rfl, rfl, rfl, rfl⟩ := hcs
  have hS2 := hS.2
  have HQ : Hid ((tc == cls && (tt == tag && tk == cons)) = false) := hq
  have hcm : cap ≤ 9223372036854775807 := by unfold maxLen at h2; omega
  have hlc : rest.length + 1 ≤ cap := by simpa using h1
  clear h3 hkk hb hq hv2 hS h1 h2
  simp only [Nat.zero_mul, Nat.add_zero] at q0 q1 q2 q3 q4
  obtain ⟨n, hn⟩ : ∃ n, n = rest.length := ⟨_, rfl⟩
  rw [← hn] at HB c0 hlc
  rw [← hn]
  clear hn
  have z1 : (((n : Nat) : Int) + 1 == 0) = false := by simp; omega
  have z2 : ((((n + 1 : Nat)) : Int) == 0) = false := by simp; omega
  have z3 : 0 < n + 1 := by omega
  have z4 : (0 : Int) < (n : Int) + 1 := by omega
  go_enter Tryd.func30, Tryd.ntmps30
  go_wp2_with (first
    | (go_at_call 26; refine (is_cells tc tt tk _ _ cls tag cons _).mono ?_; rw [HQ.out]; rintro e w2 ⟨rfl, hb2⟩; have HB2 := Lib.hid hb2; have hz := (Off.of_below hb2 []).bk (Bk.new w 38 #[.int .i64 0, .bool false, .int .i64 0, .string ⟨#[]⟩, .slice none 0 0]) (by simp); have HZ := Lib.hid hz; obtain ⟨y0, y1, y2, y3, y4⟩ := hz.five; have f0 := hz.frozen 0; have f1 := hz.frozen 1; have f2 := hz.frozen 2; have f3 := hz.frozen 3; have f4 := hz.frozen 4; clear hb2 hz)
    | fail)
  have hs2 : w.heap.size < w2.heap.size := HZ.out.lt
  have hO : Off [b] w w2 := (((Off.refl [b] w).alloc (.cells #[.int .i64 0, .bool false, .int .i64 0, .string ⟨#[]⟩, .slice none 0 0] 38)).trans ((Off.of_below HB2.out [b])))
  have hbw : Bk w2 b 75 _ := (Off.of_below HB2.out []).bk (HB.out.alloc _) (by simp)
  refine bodyPost_ret (v := .tuple #[.agg (flat 0 0 ⟨#[]⟩), .bool false]) (by simp [results, Tryd.results30, go_sem, flat, y0, y1, y2, y3, y4]) rfl ⟨?_, .inl ⟨rfl, rfl, ?_⟩⟩
  · exact ((((hO.setCell (.inr (Nat.le_refl _)) _).setCell (.inr (Nat.le_refl _)) _).setCell (.inr (Nat.le_refl _)) _).setCell (.inr (Nat.le_refl _)) _).setCell (.inr (Nat.le_refl _)) _
  · exact ((((hbw.far (by simp; omega) _).far (by simp; omega) _).far (by simp; omega) _).far (by simp; omega) _).far (by simp; omega) _
/-- A zero value's block, and what was there, behind a call that makes memory alone. -/
abbrev zTlv : Obj := .cells #[.int .i64 0, .bool false, .int .i64 0, .string ⟨#[]⟩, .slice none 0 0] 38
theorem may_mid {w w2 : World} {b b0 : Nat} {v : Value} (hb : Bk w b 75 #[v]) (h0 : b0 < w.heap.size) (hb2 : Below (w.alloc zTlv).heap.size (w.alloc zTlv) w2) :
    Bk w2 b 75 #[v] ∧ Bk w2 w.heap.size 38 #[.int .i64 0, .bool false, .int .i64 0, .string ⟨#[]⟩, .slice none 0 0] ∧ (∀ o', w2.cell? ⟨b0, o', none⟩ = w.cell? ⟨b0, o', none⟩) ∧ w.heap.size < w2.heap.size ∧ b < w.heap.size := by
  have h1 := (Off.of_below hb2 []).bk (Bk.new w 38 #[.int .i64 0, .bool false, .int .i64 0, .string ⟨#[]⟩, .slice none 0 0]) (by simp)
  have ha : Below w.heap.size w (w.alloc zTlv) := (Below.refl _ w).alloc (Nat.le_refl _) _
  refine ⟨(Off.of_below hb2 []).bk (hb.alloc _) (by simp), h1, fun o' => ?_, h1.lt, hb.lt⟩
  exact (hb2.cell (p := ⟨b0, o', none⟩) (Nat.lt_of_lt_of_le h0 ha.size)).trans (ha.cell (p := ⟨b0, o', none⟩) h0)

set_option maxHeartbeats 4000000 in
theorem may_yes (b b0 o cap : Nat) (k : Tl) (rest : List Tl) (S : Nat → Prop) (cls tag : Int) (cons : Bool) (w : World) (hb : Bk w b 75 #[.slice (some ⟨b0, o, none⟩) (rest.length + 1) cap]) (hr : TRow w S (.slice (some ⟨b0, o, none⟩) (rest.length + 1) cap) (k :: rest)) (hq : k.isB cls tag cons = true) (hnb : ∀ x, S x → x ≠ b) :
    Calls Tryd.prog 30 #[.pointer (some ⟨b, 0, none⟩), .int .i64 cls, .int .i64 tag, .bool cons] w (MayPost b S (k :: rest) (.slice (some ⟨b0, o, none⟩) (rest.length + 1) cap) true w) := by
  have HB := Lib.hid hb
  have HR := Lib.hid hr
  have HNB := Lib.hid hnb
  have c0 : w.cell? ⟨b, 0, none⟩ = some (.slice (some ⟨b0, o, none⟩) (rest.length + 1) cap) := by simpa using hb.cell 0
  have hlt := hb.lt
  obtain ⟨A, cap', hv, h1, h2, h3⟩ := hr
  obtain ⟨bb, oo, x0, x1, x2, x3, x4, hA, hS, q0, q1, q2, q3, q4, ht⟩ := h3 0 (by simp)
  injection hv with hv1 hv2 hv3
  subst hv1 hv3
  injection hA with hA
  injection hA with hA1 hA2
  subst hA1 hA2
  obtain ⟨tc, tk, tt, tb, tks⟩ := k
  simp only [List.getElem_cons_zero] at ht
  have HKT := Lib.hid ht
  unfold TlAt at ht
  obtain ⟨kA, kc, hcs, hkk⟩ := ht
  simp only [Array.mk.injEq, List.cons.injEq, and_true] at hcs
  obtain ⟨rfl, rfl, rfl, rfl, rfl⟩ := hcs
  have hS2 := hS.2
  have hbne : b0 ≠ b := hnb _ hS.1
  have g0 := hb.frozen 0
  have HQ : Hid ((tc == cls && (tt == tag && tk == cons)) = true) := hq
  have hcm : cap ≤ 9223372036854775807 := by unfold maxLen at h2; omega
  have hlc : rest.length + 1 ≤ cap := by simpa using h1
  clear h3 hkk hb hq hv2 hS h1 h2 hnb
  simp only [Nat.zero_mul, Nat.add_zero] at q0 q1 q2 q3 q4
  obtain ⟨n, hn⟩ : ∃ n, n = rest.length := ⟨_, rfl⟩
  rw [← hn] at HB c0 hlc
  rw [← hn]
  have HN := Lib.hid hn
  clear hn
  have z1 : (((n : Nat) : Int) + 1 == 0) = false := by simp; omega
  have z2 : ((((n + 1 : Nat)) : Int) == 0) = false := by simp; omega
  have z3 : 0 < n + 1 := by omega
  have z4 : (0 : Int) < (n : Int) + 1 := by omega
  by_cases hc1 : cap = 1
  · subst hc1
    obtain rfl : n = 0 := by omega
    simp only [Nat.zero_add] at c0 HB z1 z2 z3 z4 hlc ⊢
    clear z1 z2 z3 z4
    go_enter Tryd.func30, Tryd.ntmps30
    go_wp2_with (first
      | (go_at_call 26; refine (is_cells tc tt tk _ _ cls tag cons _).mono ?_; rw [HQ.out]; rintro e w2 ⟨rfl, hb2⟩; have HB2 := Lib.hid hb2; obtain ⟨hbr, hz, hcc, hs3, hs4⟩ := may_mid HB.out hS2 hb2; have HBR := Lib.hid hbr; have HZ := Lib.hid hz; obtain ⟨y0, y1, y2, y3, y4⟩ := hz.five; have f0 := hz.frozen 0; have f1 := hz.frozen 1; have f2 := hz.frozen 2; have f3 := hz.frozen 3; have f4 := hz.frozen 4; have e0 : w2.cell? ⟨b, 0, none⟩ = some (.slice (some ⟨b0, o, none⟩) 1 1) := hbr.cell 0; have e1 := hbr.frozen 0; have q0' := (hcc _).trans q0; have q1' := (hcc _).trans q1; have q2' := (hcc _).trans q2; have q3' := (hcc _).trans q3; have q4' := (hcc _).trans q4; have hs5 : b < w2.heap.size := (by omega); have hs6 : ¬ (b = w2.heap.size) := (by omega); have hs7 : ¬ (w.heap.size = b) := (by omega); have hs8 : ¬ (b = w.heap.size) := (by omega); clear hb2 hz hbr hcc)
      | fail)
    have ha : Off [b] w (w.alloc zTlv) := (Off.refl [b] w).alloc _
    have hO : Off [b] w w2 := ha.trans (Off.of_below HB2.out [b])
    have hO2 := (((((((hO.setCell (p := ⟨b, 0, none⟩) (.inl (by simp)) (.slice (some ⟨b0, o, none⟩) 0 0)).setCell (p := ⟨w.heap.size, 0, none⟩) (.inr (Nat.le_refl _)) (.int .i64 tc)).setCell (p := ⟨w.heap.size, 1, none⟩) (.inr (Nat.le_refl _)) (.bool tk)).setCell (p := ⟨w.heap.size, 2, none⟩) (.inr (Nat.le_refl _)) (.int .i64 tt)).setCell (p := ⟨w.heap.size, 3, none⟩) (.inr (Nat.le_refl _)) (.string tb)).setCell (p := ⟨w.heap.size, 4, none⟩) (.inr (Nat.le_refl _)) (.slice kA tks.length kc)).alloc (.cells #[.int .i64 tc, .bool tk, .int .i64 tt, .string tb, .slice kA tks.length kc] 38))
    have HO2 := Lib.hid hO2
    have hB := (((((((HBR.out.put 0 (.slice (some ⟨b0, o, none⟩) 0 0)).far (p := ⟨w.heap.size, 0, none⟩) hs8 (.int .i64 tc)).far (p := ⟨w.heap.size, 1, none⟩) hs8 (.bool tk)).far (p := ⟨w.heap.size, 2, none⟩) hs8 (.int .i64 tt)).far (p := ⟨w.heap.size, 3, none⟩) hs8 (.string tb)).far (p := ⟨w.heap.size, 4, none⟩) hs8 (.slice kA tks.length kc)).alloc (.cells #[.int .i64 tc, .bool tk, .int .i64 tt, .string tb, .slice kA tks.length kc] 38))
    have HBF := Lib.hid hB
    clear ha hO hO2 hB
    refine bodyPost_ret (v := .tuple #[.agg #[.int .i64 tc, .bool tk, .int .i64 tt, .string tb, .slice kA tks.length kc], .bool true]) (by simp [results, Tryd.results30, go_sem, y0, y1, y2, y3, y4, hs3, hs7, hs8]) rfl ⟨HO2.out, .inr ⟨rfl, _, _, _, _, rfl, rfl, HBF.out, ?_, ?_⟩⟩
    · exact TlAt.keep HO2.out.size (fun x hx hlt => HO2.out.block x hlt (by simpa using HNB.out x hx)) (fun _ h _ => h) _ _ HKT.out
    · have h := HR.out.tail
      rw [if_pos rfl, ← HN.out] at h
      exact h.keep HO2.out.size (fun x hx hlt => HO2.out.block x hlt (by simpa using HNB.out x hx)) (fun _ h _ => h)
  · go_enter Tryd.func30, Tryd.ntmps30
    go_wp2_with (first
      | (go_at_call 26; refine (is_cells tc tt tk _ _ cls tag cons _).mono ?_; rw [HQ.out]; rintro e w2 ⟨rfl, hb2⟩; have HB2 := Lib.hid hb2; obtain ⟨hbr, hz, hcc, hs3, hs4⟩ := may_mid HB.out hS2 hb2; have HBR := Lib.hid hbr; have HZ := Lib.hid hz; obtain ⟨y0, y1, y2, y3, y4⟩ := hz.five; have f0 := hz.frozen 0; have f1 := hz.frozen 1; have f2 := hz.frozen 2; have f3 := hz.frozen 3; have f4 := hz.frozen 4; have e0 : w2.cell? ⟨b, 0, none⟩ = some (.slice (some ⟨b0, o, none⟩) (n + 1) cap) := hbr.cell 0; have e1 := hbr.frozen 0; have q0' := (hcc _).trans q0; have q1' := (hcc _).trans q1; have q2' := (hcc _).trans q2; have q3' := (hcc _).trans q3; have q4' := (hcc _).trans q4; have hs5 : b < w2.heap.size := (by omega); have hs6 : ¬ (b = w2.heap.size) := (by omega); have hs7 : ¬ (w.heap.size = b) := (by omega); have hs8 : ¬ (b = w.heap.size) := (by omega); clear hb2 hz hbr hcc)
      | fail)
    have ha : Off [b] w (w.alloc zTlv) := (Off.refl [b] w).alloc _
    have hO : Off [b] w w2 := ha.trans (Off.of_below HB2.out [b])
    have hO2 := (((((((hO.setCell (p := ⟨b, 0, none⟩) (.inl (by simp)) (.slice (some ⟨b0, o + 5, none⟩) n (cap - 1))).setCell (p := ⟨w.heap.size, 0, none⟩) (.inr (Nat.le_refl _)) (.int .i64 tc)).setCell (p := ⟨w.heap.size, 1, none⟩) (.inr (Nat.le_refl _)) (.bool tk)).setCell (p := ⟨w.heap.size, 2, none⟩) (.inr (Nat.le_refl _)) (.int .i64 tt)).setCell (p := ⟨w.heap.size, 3, none⟩) (.inr (Nat.le_refl _)) (.string tb)).setCell (p := ⟨w.heap.size, 4, none⟩) (.inr (Nat.le_refl _)) (.slice kA tks.length kc)).alloc (.cells #[.int .i64 tc, .bool tk, .int .i64 tt, .string tb, .slice kA tks.length kc] 38))
    have HO2 := Lib.hid hO2
    have hB := (((((((HBR.out.put 0 (.slice (some ⟨b0, o + 5, none⟩) n (cap - 1))).far (p := ⟨w.heap.size, 0, none⟩) hs8 (.int .i64 tc)).far (p := ⟨w.heap.size, 1, none⟩) hs8 (.bool tk)).far (p := ⟨w.heap.size, 2, none⟩) hs8 (.int .i64 tt)).far (p := ⟨w.heap.size, 3, none⟩) hs8 (.string tb)).far (p := ⟨w.heap.size, 4, none⟩) hs8 (.slice kA tks.length kc)).alloc (.cells #[.int .i64 tc, .bool tk, .int .i64 tt, .string tb, .slice kA tks.length kc] 38))
    have HBF := Lib.hid hB
    clear ha hO hO2 hB
    refine bodyPost_ret (v := .tuple #[.agg #[.int .i64 tc, .bool tk, .int .i64 tt, .string tb, .slice kA tks.length kc], .bool true]) (by simp [results, Tryd.results30, go_sem, y0, y1, y2, y3, y4, hs3, hs7, hs8]) rfl ⟨HO2.out, .inr ⟨rfl, _, _, _, _, rfl, rfl, HBF.out, ?_, ?_⟩⟩
    · exact TlAt.keep HO2.out.size (fun x hx hlt => HO2.out.block x hlt (by simpa using HNB.out x hx)) (fun _ h _ => h) _ _ HKT.out
    · have h := HR.out.tail
      rw [if_neg hc1, ← HN.out] at h
      exact h.keep HO2.out.size (fun x hx hlt => HO2.out.block x hlt (by simpa using HNB.out x hx)) (fun _ h _ => h)

theorem may_any (b : Nat) (v : Value) (ks : List Tl) (S : Nat → Prop) (cls tag : Int) (cons : Bool) (w : World) (hb : Bk w b 75 #[v]) (hr : TRow w S v ks) (hnb : ∀ x, S x → x ≠ b) :
    Calls Tryd.prog 30 #[.pointer (some ⟨b, 0, none⟩), .int .i64 cls, .int .i64 tag, .bool cons] w (MayPost b S ks v (headIs ks cls tag cons) w) := by
  have hr0 := hr
  obtain ⟨A, cap, rfl, h1, h2, h3⟩ := hr
  cases ks with
  | nil => exact may_nil b A cap S cls tag cons w hb
  | cons k rest =>
    obtain ⟨b0, o, _, _, _, _, _, hA, _⟩ := h3 0 (by simp)
    subst hA
    cases hq : k.isB cls tag cons with
    | false => rw [show headIs (k :: rest) cls tag cons = false from hq]; exact may_no b b0 o cap k rest S cls tag cons w hb hr0 hq
    | true => rw [show headIs (k :: rest) cls tag cons = true from hq]; exact may_yes b b0 o cap k rest S cls tag cons w hb hr0 hq hnb
end Go.Proofs.YtbiglfpikfjbpaaDoor
