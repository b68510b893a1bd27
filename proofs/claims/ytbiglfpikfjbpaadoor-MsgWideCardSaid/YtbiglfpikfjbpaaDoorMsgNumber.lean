/- A message's reader: text, number, truth, list. -/
import Derived.Test.YtbiglfpikfjbpaaDoorMsgMust
namespace Go.Proofs.YtbiglfpikfjbpaaDoor
open Go.RowKit
set_option maxRecDepth 100000
set_option linter.unusedVariables false
set_option linter.unusedSimpArgs false

def Tl.body : Tl → ByteArray | .mk _ _ _ b _ => b
def Tl.kids : Tl → List Tl | .mk _ _ _ _ ks => ks
/-- The first tree, if it is such a one, and the rest. -/
def headP (cls tag : Int) (cons : Bool) : List Tl → Option (Tl × List Tl)
  | [] => none
  | k :: rest => if k.isB cls tag cons then some (k, rest) else none
theorem headP_no {ks : List Tl} {cls tag : Int} {cons : Bool} (h : headIs ks cls tag cons = false) : headP cls tag cons ks = none := by
  cases ks with
  | nil => rfl
  | cons k rest => have h' : k.isB cls tag cons = false := h; simp [headP, h']
theorem headP_yes {ks : List Tl} {k : Tl} {rest : List Tl} {cls tag : Int} {cons : Bool} (hk : ks = k :: rest) (h : headIs ks cls tag cons = true) : headP cls tag cons ks = some (k, rest) := by
  subst hk
  have h' : k.isB cls tag cons = true := h
  simp [headP, h']
/-- What a step of a reader leaves: a trouble, or a thing and the rest of the row. -/
def RdPost {α : Type} (b : Nat) (S : Nat → Prop) (r : Option (α × List Tl)) (ret : α → World → Ending → Prop) (w : World) (e : Ending) (w' : World) : Prop :=
  Off [b] w w' ∧ ((r = none ∧ ThrowsM e) ∨ ∃ (a : α) (rest : List Tl) (v' : Value), r = some (a, rest) ∧ ret a w' e ∧ Bk w' b 75 #[v'] ∧ TRow w' S v' rest)

theorem field_body (c t : Int) (k : Bool) (s : ByteArray) (l : Value) (W : World) : (Instr.field 38 (.agg #[.int .i64 c, .bool k, .int .i64 t, .string s, l]) 3).run Tryd.prog W = .ok (.string s) W := by kernel_rfl
theorem field_kids (c t : Int) (k : Bool) (s l : Value) (W : World) : (Instr.field 38 (.agg #[.int .i64 c, .bool k, .int .i64 t, s, l]) 4).run Tryd.prog W = .ok l W := by kernel_rfl
def textP (ks : List Tl) : Option (ByteArray × List Tl) := (headP 0 4 false ks).map fun p => (p.1.body, p.2)
def RetS (s : ByteArray) (_ : World) (e : Ending) : Prop := s.size ≤ maxLen ∧ e = .returned (.string s)
theorem text_any (b : Nat) (v : Value) (ks : List Tl) (S : Nat → Prop) (w : World) (hb : Bk w b 75 #[v]) (hr : TRow w S v ks) (hnb : ∀ x, S x → x ≠ b) :
    Calls Tryd.prog 53 #[.pointer (some ⟨b, 0, none⟩)] w (RdPost b S (textP ks) RetS w) := by
  have HM := Lib.hid (must_any b v ks S 0 4 false w hb hr hnb)
  clear hb hr hnb
  go_enter Tryd.func53, Tryd.ntmps53
  go_wp2_with fail
  (go_at_call 50)
  refine HM.out.mono ?_
  rintro e w2 ⟨ho, hcs⟩
  have HO := Lib.hid ho
  clear ho
  rcases hcs with ⟨hq, rfl⟩ | ⟨hq, k, rest, cs, v', hks, rfl, hb2, ht, hr⟩
  · exact ⟨rfl, HO.out, .inl ⟨by simp [textP, headP_no hq], rfl⟩⟩
  · obtain ⟨tc, tk, tt, tb, tks⟩ := k
    have HP := Lib.hid (headP_yes hks hq)
    have HB2 := Lib.hid hb2
    have HR := Lib.hid hr
    unfold TlAt at ht
    obtain ⟨kA, kc, rfl, -, -, -, hbm, -⟩ := ht
    have HBM := Lib.hid hbm
    have hf := field_body tc tt tk tb (.slice kA tks.length kc)
    clear hb2 hr hks hq hbm
    go_wp2_with fail
    go_ret
    exact ⟨HO.out, .inr ⟨tb, rest, v', by simp [textP, HP.out, Tl.body], ⟨HBM.out, rfl⟩, HB2.out, HR.out⟩⟩

/-- The number of a tree, in bounds. -/
def numOf (k : Bool) (s : ByteArray) (lo hi : Int) : Option Int := if PB.isNum k s.data.toList = true ∧ inB (PB.sgn s.data.toList) lo hi = true then some (PB.sgn s.data.toList) else none
def numP (tag lo hi : Int) (ks : List Tl) : Option (Int × List Tl) := (headP 0 tag false ks).bind fun p => (numOf false p.1.body lo hi).map fun n => (n, p.2)
def RetI (n : Int) (_ : World) (e : Ending) : Prop := e = .returned (.int .i64 n)
theorem isB_cons {rest : List Tl} {c t : Int} {k : Bool} {s : ByteArray} {l : List Tl} {cls tag : Int} {cons : Bool} (h : headIs (.mk c k t s l :: rest) cls tag cons = true) : c = cls ∧ t = tag ∧ k = cons := by
  have h' : (c == cls && (t == tag && k == cons)) = true := h
  simpa using h'
set_option maxHeartbeats 1000000 in
theorem num_any (tag lo hi : Int) (b : Nat) (v : Value) (ks : List Tl) (S : Nat → Prop) (w : World) (hb : Bk w b 75 #[v]) (hr : TRow w S v ks) (hnb : ∀ x, S x → x ≠ b) :
    Calls Tryd.prog 28 #[.pointer (some ⟨b, 0, none⟩), .int .i64 tag, .int .i64 lo, .int .i64 hi] w (RdPost b S (numP tag lo hi ks) RetI w) := by
  have HM := Lib.hid (must_any b v ks S 0 tag false w hb hr hnb)
  clear hb hr hnb
  go_enter Tryd.func28, Tryd.ntmps28
  go_wp2_with fail
  (go_at_call 50)
  refine HM.out.mono ?_
  rintro e w2 ⟨ho, hcs⟩
  have HO := Lib.hid ho
  clear ho
  rcases hcs with ⟨hq, rfl⟩ | ⟨hq, k, rest, cs, v', hks, rfl, hb2, ht, hr⟩
  · exact ⟨rfl, HO.out, .inl ⟨by simp [numP, headP_no hq], rfl⟩⟩
  · obtain ⟨tc, tk, tt, tb, tks⟩ := k
    have HP := Lib.hid (headP_yes hks hq)
    subst hks
    obtain ⟨rfl, rfl, rfl⟩ := isB_cons hq
    have HB2 := Lib.hid hb2
    have HR := Lib.hid hr
    unfold TlAt at ht
    obtain ⟨kA, kc, rfl, -, -, -, hbm, -⟩ := ht
    clear hb2 hr hq
    cases hn : PB.isNum false tb.data.toList with
    | false =>
      have H2 := Lib.hid (number_no 0 tt false tb kA tks.length kc w2 hbm hn)
      have HN := Lib.hid hn
      clear hn hbm
      go_wp2_with fail
      (go_at_call 49)
      refine H2.out.mono ?_
      rintro e w3 ⟨rfl, hb3⟩
      have HB3 := Lib.hid hb3
      clear hb3
      go_wp2_with fail
      exact ⟨rfl, HO.out.trans (Off.of_below HB3.out _), .inl ⟨by simp [numP, HP.out, numOf, Tl.body, HN.out], rfl⟩⟩
    | true =>
      have H2 := Lib.hid (number_yes 0 tt tb kA tks.length kc w2 hn)
      have HN := Lib.hid hn
      obtain ⟨z, hz⟩ : ∃ z, z = PB.sgn tb.data.toList := ⟨_, rfl⟩
      rw [← hz] at H2
      have HZ := Lib.hid hz
      clear hn hbm hz
      go_wp2_with fail
      (go_at_call 49)
      refine H2.out.mono ?_
      rintro e w3 ⟨rfl, hb3⟩
      have HB3 := Lib.hid hb3
      clear hb3
      have H3 := Lib.hid (within_any z lo hi w3)
      go_wp2_with fail
      (go_at_call 36)
      refine H3.out.mono ?_
      cases hin : inB z lo hi with
      | false =>
        rintro e w4 ⟨rfl, rfl⟩
        have HI := Lib.hid hin
        clear hin
        go_wp2_with fail
        exact ⟨rfl, HO.out.trans (Off.of_below HB3.out _), .inl ⟨by simp [numP, HP.out, numOf, Tl.body, HN.out, ← HZ.out, HI.out], rfl⟩⟩
      | true =>
        rintro e w4 ⟨rfl, rfl⟩
        have HI := Lib.hid hin
        clear hin
        go_wp2_with fail
        go_ret
        exact ⟨HO.out.trans (Off.of_below HB3.out _), .inr ⟨z, rest, v', by simp [numP, HP.out, numOf, Tl.body, HN.out, ← HZ.out, HI.out], rfl, bk_below HB2.out HB3.out, HR.out.below HB3.out⟩⟩

def truthP (ks : List Tl) : Option (Bool × List Tl) := (headP 0 1 false ks).bind fun p => if (boolOf false p.1.body).2 = 0 then some ((boolOf false p.1.body).1, p.2) else none
def RetB (q : Bool) (_ : World) (e : Ending) : Prop := e = .returned (.bool q)
theorem truth_any (b : Nat) (v : Value) (ks : List Tl) (S : Nat → Prop) (w : World) (hb : Bk w b 75 #[v]) (hr : TRow w S v ks) (hnb : ∀ x, S x → x ≠ b) :
    Calls Tryd.prog 54 #[.pointer (some ⟨b, 0, none⟩)] w (RdPost b S (truthP ks) RetB w) := by
  have HM := Lib.hid (must_any b v ks S 0 1 false w hb hr hnb)
  clear hb hr hnb
  go_enter Tryd.func54, Tryd.ntmps54
  go_wp2_with fail
  (go_at_call 50)
  refine HM.out.mono ?_
  rintro e w2 ⟨ho, hcs⟩
  have HO := Lib.hid ho
  clear ho
  rcases hcs with ⟨hq, rfl⟩ | ⟨hq, k, rest, cs, v', hks, rfl, hb2, ht, hr⟩
  · exact ⟨rfl, HO.out, .inl ⟨by simp [truthP, headP_no hq], rfl⟩⟩
  · obtain ⟨tc, tk, tt, tb, tks⟩ := k
    have HP := Lib.hid (headP_yes hks hq)
    subst hks
    obtain ⟨rfl, rfl, rfl⟩ := isB_cons hq
    have HB2 := Lib.hid hb2
    have HR := Lib.hid hr
    unfold TlAt at ht
    obtain ⟨kA, kc, rfl, -, -, -, hbm, -⟩ := ht
    clear hb2 hr hq hbm
    have H2 := Lib.hid (bool_any 0 1 false tb kA tks.length kc w2)
    go_wp2_with fail
    (go_at_call 78)
    refine H2.out.mono ?_
    obtain ⟨q, er, hqe⟩ : ∃ q er, boolOf false tb = (q, er) := ⟨_, _, rfl⟩
    have HQ := Lib.hid hqe
    rw [hqe]
    clear hqe
    rintro e w3 ⟨rfl, hb3⟩
    have HB3 := Lib.hid hb3
    clear hb3
    by_cases h0 : er = 0
    · subst h0
      go_wp2_with fail
      go_ret
      exact ⟨HO.out.trans (Off.of_below HB3.out _), .inr ⟨q, rest, v', by simp [truthP, HP.out, Tl.body, HQ.out], rfl, bk_below HB2.out HB3.out, HR.out.below HB3.out⟩⟩
    · have h1 : (er != 0) = true := by simpa using h0
      have h2 := Lib.hid h0
      clear h0
      go_wp2_with fail
      exact ⟨rfl, HO.out.trans (Off.of_below HB3.out _), .inl ⟨by simp [truthP, HP.out, Tl.body, HQ.out, h2.out], rfl⟩⟩

def listP (tag : Int) (ks : List Tl) : Option (List Tl × List Tl) := (headP 0 tag true ks).map fun p => (p.1.kids, p.2)
/-- A pointer to a new row. -/
def RetR (S : Nat → Prop) (B : Nat) (ks : List Tl) (w' : World) (e : Ending) : Prop := ∃ (c : Nat) (v : Value), e = .returned (.pointer (some ⟨c, 0, none⟩)) ∧ B ≤ c ∧ Bk w' c 75 #[v] ∧ TRow w' S v ks
theorem list_any (tag : Int) (b : Nat) (v : Value) (ks : List Tl) (S : Nat → Prop) (w : World) (hb : Bk w b 75 #[v]) (hr : TRow w S v ks) (hnb : ∀ x, S x → x ≠ b) :
    Calls Tryd.prog 52 #[.pointer (some ⟨b, 0, none⟩), .int .i64 tag] w (RdPost b S (listP tag ks) (RetR S w.heap.size) w) := by
  have HM := Lib.hid (must_any b v ks S 0 tag true w hb hr hnb)
  clear hb hr hnb
  go_enter Tryd.func52, Tryd.ntmps52
  go_wp2_with fail
  (go_at_call 50)
  refine HM.out.mono ?_
  rintro e w2 ⟨ho, hcs⟩
  have HO := Lib.hid ho
  clear ho
  rcases hcs with ⟨hq, rfl⟩ | ⟨hq, k, rest, cs, v', hks, rfl, hb2, ht, hr⟩
  · exact ⟨rfl, HO.out, .inl ⟨by simp [listP, headP_no hq], rfl⟩⟩
  · obtain ⟨tc, tk, tt, tb, tks⟩ := k
    have HP := Lib.hid (headP_yes hks hq)
    have HB2 := Lib.hid hb2
    have HR := Lib.hid hr
    unfold TlAt at ht
    obtain ⟨kA, kc, rfl, hl, -, -, -, hkk⟩ := ht
    have HK := Lib.hid (TRow.of_kids hl hkk)
    have hf := field_kids tc tt tk (.string tb) (.slice kA tks.length kc)
    clear hb2 hr hks hq hl hkk
    go_wp2_with fail
    go_ret
    have ha : Below w2.heap.size w2 (w2.alloc (.cells #[.slice kA tks.length kc] 75)) := (Below.refl _ w2).alloc (Nat.le_refl _) _
    exact ⟨HO.out.alloc _, .inr ⟨tks, rest, v', by simp [listP, HP.out, Tl.kids], ⟨w2.heap.size, _, rfl, HO.out.size, Bk.new _ _ _, HK.out.below ha⟩, HB2.out.alloc _, HR.out.below ha⟩⟩
end Go.Proofs.YtbiglfpikfjbpaaDoor
