/- A message's reader: texts, attr. -/
import Derived.Test.YtbiglfpikfjbpaaDoorMsgNumber
import Derived.Test.YtbiglfpikfjbpaaDoorMsgData
namespace Go.Proofs.YtbiglfpikfjbpaaDoor
open Go.RowKit
set_option maxRecDepth 100000
set_option linter.unusedVariables false
set_option linter.unusedSimpArgs false

theorem grown_keep {w w' : World} {row : Option Nat} (hg : w.grownBy w' row) {B : Nat} (hr : ∀ g, row = some g → B ≤ g) : ∀ x, x < B → x < w.heap.size → w'.heap[x]? = w.heap[x]? :=
  fun x hx hlt => hg.block x hlt (fun e => by have := hr x e.symm; omega)
theorem Bk.keep {w w' : World} {g : Nat} {t : TypeId} {cs : Array Value} (h : Bk w g t cs) (hk : w'.heap[g]? = w.heap[g]?) : Bk w' g t cs := hk.trans h
theorem Off.off {S : List Nat} {w w' : World} (h : Off S w w') : ∀ x, x < w.heap.size → x ∉ S → w'.heap[x]? = w.heap[x]? := h.block

/-- All that is left, as texts. -/
def textsP : List Tl → Option (List ByteArray)
  | [] => some []
  | k :: rest => match headP 0 4 false (k :: rest) with
    | some (t, _) => (textsP rest).map (t.body :: ·)
    | none => none
theorem headP_some {cls tag : Int} {cons : Bool} {ks : List Tl} {t : Tl} {rest : List Tl} (h : headP cls tag cons ks = some (t, rest)) : ks = t :: rest ∧ t.isB cls tag cons = true := by
  cases ks with
  | nil => simp [headP] at h
  | cons k r =>
    simp only [headP] at h
    by_cases hq : k.isB cls tag cons = true
    · rw [if_pos hq] at h
      simp at h
      obtain ⟨rfl, rfl⟩ := h
      exact ⟨rfl, hq⟩
    · rw [if_neg hq] at h; simp at h
theorem textP_some {ks : List Tl} {s : ByteArray} {rest : List Tl} (h : textP ks = some (s, rest)) : ∃ t : Tl, ks = t :: rest ∧ t.body = s ∧ headP 0 4 false ks = some (t, rest) := by
  unfold textP at h
  cases hh : headP 0 4 false ks with
  | none => rw [hh] at h; simp at h
  | some p =>
    obtain ⟨t, r⟩ := p
    rw [hh] at h
    simp at h
    obtain ⟨h1, rfl⟩ := h
    exact ⟨t, (headP_some hh).1, h1, rfl⟩
theorem textsP_none {ks : List Tl} (h0 : ks ≠ []) (h : textP ks = none) : textsP ks = none := by
  cases ks with
  | nil => exact absurd rfl h0
  | cons k r =>
    unfold textsP
    unfold textP at h
    cases hh : headP 0 4 false (k :: r) with
    | none => rfl
    | some p => rw [hh] at h; simp at h
theorem textsP_some {ks : List Tl} {s : ByteArray} {rest : List Tl} (h : textP ks = some (s, rest)) : textsP ks = (textsP rest).map (s :: ·) ∧ ks.length = rest.length + 1 := by
  obtain ⟨t, rfl, rfl, hh⟩ := textP_some h
  exact ⟨by rw [textsP, hh], rfl⟩

theorem info_strE : (Tryd.prog.info? 9).map (fun i => (i.zero, i.size, i.bytes)) = some (some (.string ByteArray.empty), 1, 16) := by kernel_rfl
def rowLen (v : Option Value) : Nat := match v with | some (.slice _ n _) => n | _ => 0
/-- The rows of texts' loop. -/
def TextsAt (b : Nat) (S : Nat → Prop) (ks : List Tl) (w : World) (ss : List ByteArray) (rest : List Tl) (u v : Value) (wr : World) : Prop :=
  Off [b] w wr ∧ Bk wr b 75 #[v] ∧ TRow wr S v rest ∧ GRow 9 1 StrAt wr w.heap.size u ss ∧ textsP ks = (textsP rest).map (ss ++ ·) ∧ ss.length + rest.length ≤ 8192
def TextsPost (b : Nat) (r : Option (List ByteArray)) (w : World) (e : Ending) (w' : World) : Prop :=
  Off [b] w w' ∧ ((r = none ∧ ThrowsM e) ∨ ∃ (ss : List ByteArray) (q : Rw), r = some ss ∧ e = .returned (.slice q.A q.n q.c) ∧ SRow w' (fun x => w.heap.size ≤ x) q ss)
theorem TextsAt.next {b : Nat} {S : Nat → Prop} {ks rest rest2 : List Tl} {w wr w2 w3 : World} {ss : List ByteArray} {s : ByteArray} {u v2 u3 : Value} {css : List (List Value)} (hbw : b < w.heap.size) (hS : ∀ x, S x → x ≠ b ∧ x < w.heap.size)
    (h1 : Off [b] w wr) (hpar : textsP ks = (textsP rest).map (ss ++ ·)) (hlen : ss.length + rest.length ≤ 8192) (htx : textP rest = some (s, rest2)) (hsm : s.size ≤ maxLen)
    (hcl : css.length = ss.length) (hck : ∀ c ∈ css, c.length = 1) (hown : wr.ownsRow w.heap.size 9 1 u ss.length css.flatten)
    (hall : ∀ (i : Nat) (d : ByteArray) (c : List Value), ss[i]? = some d → css[i]? = some c → StrAt wr (fun b => w.heap.size ≤ b ∧ u.ownBlock ≠ some b) d c)
    (ho : Off [b] wr w2) (hb2 : Bk w2 b 75 #[v2]) (hr2 : TRow w2 S v2 rest2)
    (hown3 : w3.ownsRow w.heap.size 9 1 u3 (ss.length + 1) (css.flatten ++ [.string s])) (hgr : (w2.alloc (.cells #[.string s] 9)).grownBy w3 u.ownBlock) (hat : u3.ownBlock = u.ownBlock ∨ u3.ownBlock = some (w2.alloc (.cells #[.string s] 9)).heap.size) :
    TextsAt b S ks w (ss ++ [s]) rest2 u3 v2 w3 := by
  have ha : Below w2.heap.size w2 (w2.alloc (.cells #[.string s] 9)) := (Below.refl _ w2).alloc (Nat.le_refl _) _
  have s1 := h1.size
  have s2 := ho.size
  have s3 := ha.size
  have hk := grown_keep hgr (B := w.heap.size) (fun g hg => (hown.lt g hg).1)
  have hk2 : ∀ x, x < w.heap.size → w3.heap[x]? = w2.heap[x]? := fun x hx => (hk x hx (by omega)).trans (ha.block x (by omega))
  obtain ⟨hp, hl⟩ := textsP_some htx
  refine ⟨((h1.trans ho).alloc _).grown hgr (fun g hg => .inr (hown.lt g hg).1), hb2.keep (hk2 b hbw), hr2.keep (by have := hgr.size; omega) (fun x hx hlt => hk2 x (hS x hx).2) (fun _ h _ => h),
    GRow.push strAt_stable (w := wr) (w1 := w2) (w2 := w2.alloc (.cells #[.string s] 9)) s1 hcl hck hown hall (fun x hx hlt => ho.block x hlt (by simp; omega)) s2 rfl ⟨rfl, hsm⟩ ha hown3 hgr hat, ?_, ?_⟩
  · rw [hpar, hp, Option.map_map]
    congr 1
    funext l
    simp
  · rw [List.length_append, List.length_singleton]; omega

set_option maxHeartbeats 4000000 in
theorem texts_any (b : Nat) (v : Value) (ks : List Tl) (S : Nat → Prop) (w : World) (hb : Bk w b 75 #[v]) (hr : TRow w S v ks) (hS : ∀ x, S x → x ≠ b ∧ x < w.heap.size) (hlen : ks.length ≤ 8192) :
    Calls Tryd.prog 83 #[.pointer (some ⟨b, 0, none⟩)] w (TextsPost b (textsP ks) w) := by
  obtain ⟨i0, hi, hz0, hz1, hz2⟩ := info_parts info_strE
  have hbw := hb.lt
  have HS := Lib.hid hS
  have h0 : TextsAt b S ks w [] ks (.slice none 0 0) v w := ⟨Off.refl _ _, hb, hr, GRow.nil _ _, by cases textsP ks <;> rfl, by simpa using hlen⟩
  have H0 := Lib.hid h0
  clear hb hr h0 hS hlen
  go_enter Tryd.func83, Tryd.ntmps83
  go_wp2_with fail
  go_loopw [3] (fun u wr => ∃ (ss : List ByteArray) (rest : List Tl) (v : Value), TextsAt b S ks w ss rest u v wr) (fun _ wr => rowLen (wr.cell? ⟨b, 0, none⟩))
  case atStart => exact ⟨_, _, _, H0.out⟩
  case round =>
    clear H0
    obtain ⟨ss, rest, v1, h1, h2, h3, h4, h5, h6⟩ := hrel
    obtain ⟨A, cap, rfl, hc1, hc2, -⟩ := id h3
    have c0 : wr.cell? ⟨b, 0, none⟩ = some (.slice A rest.length cap) := h2.cell 0
    have H1 := Lib.hid h1
    have H2 := Lib.hid h2
    have H3 := Lib.hid h3
    have H5 := Lib.hid h5
    have H6 := Lib.hid h6
    have hs1 := h1.size
    clear h1 h2 h3 h5 hc1 hc2 h6
    cases rest with
    | nil =>
      obtain ⟨q, rfl, hq⟩ := GRow.row strAt_stable h4
      have HQ := Lib.hid hq
      clear h4 hq
      go_wp2_with fail
      go_ret
      exact ⟨H1.out, .inr ⟨ss, q, by rw [H5.out]; simp [textsP], rfl, HQ.out⟩⟩
    | cons k rest =>
      have HX := Lib.hid (text_any b _ (k :: rest) S wr H2.out H3.out (fun x hx => (HS.out x hx).1))
      obtain ⟨css, hcl, hck, hown, hall⟩ := h4
      have HCL := Lib.hid hcl
      have HCK := Lib.hid hck
      have HALL := Lib.hid hall
      clear hcl hck hall
      have z1 : decide ((0 : Int) < (rest.length : Int) + 1) = true := decide_eq_true (by omega)
      have z2 : ss.length < 8192 := by have := H6.out; simp at this; omega
      go_wp2_with fail
      (go_at_call 53)
      refine HX.out.mono ?_
      rintro e w2 ⟨ho, hcs⟩
      have HO := Lib.hid ho
      rcases hcs with ⟨hn, rfl⟩ | ⟨s, rest2, v2, hn, ⟨hsm, rfl⟩, hb2, hr2⟩
      · exact ⟨rfl, H1.out.trans ho, .inl ⟨by rw [H5.out, textsP_none (by simp) hn]; rfl, rfl⟩⟩
      · have hown2 := ho.own hown (fun g hg => by have := (hown.lt g hg).1; simp; omega)
        have HN := Lib.hid hn
        have HB2 := Lib.hid hb2
        have HR2 := Lib.hid hr2
        have HSM := Lib.hid hsm
        have hs2 := ho.size
        clear hn hb2 hr2 hsm ho
        go_wp2_with (at_builtin; refine wpList_append_own_at _ rfl (.tmp 10) (.tmp 13) 22 rfl w.heap.size 9 i0 (.string ByteArray.empty) 1 16 Tryd.underlying22 hi hz0 hz1 hz2 rfl (by decide) u3 _ _ rfl (World.ownsRow.alloc (w := w2) hown2 _) ⟨w2.heap.size, 0, none⟩ 1 1 [.string s] rfl rfl (cell_one_new _ _ _) (fun x hx => by simp at hx; subst hx; rfl) (by unfold maxLen; omega) (by omega) (by simp; omega) ?_; intro v' w3 hown3 hgrow3 hnil3 hat3)
        have HT := Lib.hid (TextsAt.next hbw HS.out H1.out H5.out H6.out HN.out HSM.out HCL.out HCK.out hown HALL.out HO.out HB2.out HR2.out hown3 hgrow3 hat3)
        clear hgrow3 hnil3 hat3 hown3 hown2 hown
        go_roundw
        case rel => exact ⟨_, _, _, HT.out⟩
        case measure =>
          obtain ⟨-, hbk, ⟨A2, cap2, rfl, -⟩, -⟩ := HT.out
          have e1 : w3.cell? ⟨b, 0, none⟩ = some (.slice A2 rest2.length cap2) := hbk.cell 0
          have hl2 : rest.length + 1 = rest2.length + 1 := (textsP_some HN.out).2
          rw [e1, c0]
          show rest2.length < rest.length + 1
          omega
/-- A type and its values. -/
def attrP (ks : List Tl) : Option ((ByteArray × List ByteArray)) := (textP ks).bind fun p => (listP 17 p.2).bind fun q => (textsP q.1).bind fun ss => if q.2 = [] then some (p.1, ss) else none
def AttrPost (b : Nat) (r : Option (ByteArray × List ByteArray)) (w : World) (e : Ending) (w' : World) : Prop :=
  Off [b] w w' ∧ ((r = none ∧ ThrowsM e) ∨ ∃ (d : ByteArray × List ByteArray) (c : List Value), r = some d ∧ e = .returned (.agg c.toArray) ∧ AttrAt w' (fun x => w.heap.size ≤ x) d c)
/-- The length of a list's rows. -/
theorem listP_some {tag : Int} {ks l rest : List Tl} (h : listP tag ks = some (l, rest)) : ∃ t : Tl, ks = t :: rest ∧ t.kids = l ∧ headP 0 tag true ks = some (t, rest) := by
  unfold listP at h
  cases hh : headP 0 tag true ks with
  | none => rw [hh] at h; simp at h
  | some p =>
    obtain ⟨t, r⟩ := p
    rw [hh] at h
    simp at h
    obtain ⟨h1, rfl⟩ := h
    exact ⟨t, (headP_some hh).1, h1, rfl⟩
mutual
def Tl.few : Tl → Prop | .mk _ _ _ _ ks => ks.length ≤ 8192 ∧ Tl.fews ks
def Tl.fews : List Tl → Prop | [] => True | k :: ks => k.few ∧ Tl.fews ks
end
def Few (ks : List Tl) : Prop := ks.length ≤ 8192 ∧ Tl.fews ks
theorem Few.tail {k : Tl} {ks : List Tl} (h : Few (k :: ks)) : Few ks := by
  obtain ⟨h1, h2⟩ := h
  unfold Tl.fews at h2
  exact ⟨by simp at h1; omega, h2.2⟩
theorem Few.kids {k : Tl} {ks : List Tl} (h : Few (k :: ks)) : Few k.kids := by
  obtain ⟨h1, h2⟩ := h
  unfold Tl.fews at h2
  obtain ⟨c, q, t, b, l⟩ := k
  have := h2.1
  unfold Tl.few at this
  exact this
theorem Few.text {ks rest : List Tl} {s : ByteArray} (h : Few ks) (ht : textP ks = some (s, rest)) : Few rest := by
  obtain ⟨t, rfl, -, -⟩ := textP_some ht
  exact h.tail
theorem Few.list {tag : Int} {ks l rest : List Tl} (h : Few ks) (ht : listP tag ks = some (l, rest)) : Few l ∧ Few rest := by
  obtain ⟨t, rfl, rfl, -⟩ := listP_some ht
  exact ⟨h.kids, h.tail⟩

set_option maxHeartbeats 4000000 in
theorem attr_any (b : Nat) (v : Value) (ks : List Tl) (S : Nat → Prop) (w : World) (hb : Bk w b 75 #[v]) (hr : TRow w S v ks) (hS : ∀ x, S x → x ≠ b ∧ x < w.heap.size) (hf : Few ks) :
    Calls Tryd.prog 76 #[.pointer (some ⟨b, 0, none⟩)] w (AttrPost b (attrP ks) w) := by
  have hbw := hb.lt
  have ha := (Below.refl w.heap.size w).alloc (Nat.le_refl _) (.cells #[.string ByteArray.empty, .slice none 0 0] 52)
  have HA := Lib.hid ha
  have HS := Lib.hid hS
  have HX := Lib.hid (text_any b v ks S _ (hb.alloc (.cells #[.string ByteArray.empty, .slice none 0 0] 52)) (hr.below ha) (fun x hx => (hS x hx).1))
  have HF := Lib.hid hf
  clear hb hr hS ha hf
  go_enter Tryd.func76, Tryd.ntmps76
  go_wp2_with fail
  (go_at_call 53)
  refine HX.out.mono ?_
  rintro e w2 ⟨ho, hcs⟩
  have HO := Lib.hid ((((Off.refl [b] w).alloc (.cells #[.string ByteArray.empty, .slice none 0 0] 52)).trans ho))
  have hz := ho.bk (Bk.new w 52 #[.string ByteArray.empty, .slice none 0 0]) (by simp; omega)
  have HZ := Lib.hid hz
  clear ho hz
  rcases hcs with ⟨hn, rfl⟩ | ⟨s, rest2, v2, hn, ⟨hsm, rfl⟩, hb2, hr2⟩
  · exact ⟨rfl, HO.out, .inl ⟨by simp [attrP, hn], rfl⟩⟩
  · have HN := Lib.hid hn
    have HSM := Lib.hid hsm
    have hb3 := hb2.alloc (.cells #[.string s, .slice none 0 0] 52)
    have hr3 := hr2.below ((Below.refl w2.heap.size w2).alloc (Nat.le_refl _) (.cells #[.string s, .slice none 0 0] 52))
    have HL := Lib.hid (list_any 17 b v2 rest2 S _ hb3 hr3 (fun x hx => (HS.out x hx).1))
    have hs2 := HO.out.size
    clear hn hb2 hr2 hsm hb3 hr3
    go_wp2_with fail
    (go_at_call 52)
    refine HL.out.mono ?_
    rintro e w3 ⟨ho, hcs⟩
    have HO3 := Lib.hid ho
    rcases hcs with ⟨hn, rfl⟩ | ⟨l, rest3, v3, hn, ⟨c, vl, rfl, hc, hbc, hrc⟩, hb3, hr3⟩
    · exact ⟨rfl, (HO.out.alloc _).trans ho, .inl ⟨by simp [attrP, HN.out, hn], rfl⟩⟩
    · have HN3 := Lib.hid hn
      have hal : Below w2.heap.size w2 (w2.alloc (.cells #[.string s, .slice none 0 0] 52)) := (Below.refl _ _).alloc (Nat.le_refl _) _
      have hs3 : w2.heap.size + 1 ≤ w3.heap.size := by simpa using ho.size
      have hsa := hal.size
      have hw2 := HZ.out.lt
      have hc' : w2.heap.size + 1 ≤ c := by simpa using hc
      have hz3 := ho.bk (HZ.out.alloc (.cells #[.string s, .slice none 0 0] 52)) (by simp; omega)
      have hy3 := ho.bk (Bk.new w2 52 #[.string s, .slice none 0 0]) (by simp; omega)
      have HT := Lib.hid (texts_any c vl l S w3 hbc hrc (fun x hx => ⟨by have := (HS.out x hx).2; omega, by have := (HS.out x hx).2; omega⟩) ((HF.out.text HN.out).list hn).1.1)
      have HZ3 := Lib.hid hz3
      have HY3 := Lib.hid hy3
      have HB3 := Lib.hid hb3
      have HR3 := Lib.hid hr3
      clear hn hb3 hr3 hbc hrc hz3 hy3 ho hal hsa
      go_wp2_with fail
      (go_at_call 83)
      refine HT.out.mono ?_
      rintro e w4 ⟨ho, hcs⟩
      have HO4 := Lib.hid ho
      have hoc : Off [b] w w4 := ((HO.out.alloc _).trans HO3.out).then ho (by simp; omega)
      have HOC := Lib.hid hoc
      rcases hcs with ⟨hn, rfl⟩ | ⟨ss, q, hn, rfl, hq⟩
      · exact ⟨rfl, hoc, .inl ⟨by simp [attrP, HN.out, HN3.out, hn], rfl⟩⟩
      · have HN4 := Lib.hid hn
        have HQ := Lib.hid hq
        have hs4 := ho.size
        have hz4 := ho.bk HZ3.out (by simp; omega)
        have hy4 := ho.bk HY3.out (by simp; omega)
        have hb4 := ho.bk HB3.out (by simp; omega)
        have hr4 := HR3.out.keep hs4 (fun x hx hlt => ho.block x hlt (by have := (HS.out x hx).2; simp; omega)) (fun _ h _ => h)
        have y1 : w4.cell? ⟨w2.heap.size, 1, none⟩ = some (.slice none 0 0) := hy4.cell 1
        have y0 : w4.cell? ⟨w2.heap.size, 0, none⟩ = some (.string s) := hy4.cell 0
        have g1 := hy4.frozen 1
        have g0 := hy4.frozen 0
        have z1 : w4.cell? ⟨w.heap.size, 1, none⟩ = some (.slice none 0 0) := hz4.cell 1
        have z0 : w4.cell? ⟨w.heap.size, 0, none⟩ = some (.string ByteArray.empty) := hz4.cell 0
        have f1 := hz4.frozen 1
        have f0 := hz4.frozen 0
        obtain ⟨A5, cap5, rfl, -⟩ := id hr4
        have HE := Lib.hid (end_any b rest3.length A5 cap5 (w4.setCell ⟨w2.heap.size, 1, none⟩ (.slice q.A q.n q.c)) (hb4.far (by simp; omega) _))
        have HOW := Lib.hid (hoc.setCell (p := ⟨w2.heap.size, 1, none⟩) (.inr (by simp; omega)) (.slice q.A q.n q.c))
        have hy5 : Bk (w4.setCell ⟨w2.heap.size, 1, none⟩ (.slice q.A q.n q.c)) w2.heap.size 52 #[.string s, .slice q.A q.n q.c] := hy4.put 1 (.slice q.A q.n q.c)
        have hz5 : Bk (w4.setCell ⟨w2.heap.size, 1, none⟩ (.slice q.A q.n q.c)) w.heap.size 52 #[.string ByteArray.empty, .slice none 0 0] := hz4.far (by simp; omega) _
        have HY5 := Lib.hid hy5
        have HZ5 := Lib.hid hz5
        have hne : ¬ (w2.heap.size = w.heap.size) := by omega
        have hne2 : ¬ (w.heap.size = w2.heap.size) := by omega
        have hl2 : w2.heap.size < w4.heap.size := by omega
        have hl3 : w.heap.size < w4.heap.size := by omega
        clear hn hq hz4 hy4 hb4 hr4 hoc ho hy5 hz5
        go_wp2_with fail
        (go_at_call 32)
        refine HE.out.mono ?_
        rintro e w5 ⟨ho5, hcs⟩
        rcases hcs with ⟨hn, rfl⟩ | ⟨hn, rfl⟩
        · have hy6 := ho5.bk HY5.out (by simp)
          have hz6 := ho5.bk HZ5.out (by simp)
          have x0 : w5.cell? ⟨w2.heap.size, 0, none⟩ = some (.string s) := hy6.cell 0
          have x1 : w5.cell? ⟨w2.heap.size, 1, none⟩ = some (.slice q.A q.n q.c) := hy6.cell 1
          have v0 : w5.cell? ⟨w.heap.size, 0, none⟩ = some (.string ByteArray.empty) := hz6.cell 0
          have v1 : w5.cell? ⟨w.heap.size, 1, none⟩ = some (.slice none 0 0) := hz6.cell 1
          have k0 := hz6.frozen 0
          have k1 := hz6.frozen 1
          have HO5 := Lib.hid ho5
          clear hy6 hz6 ho5 y0 y1 z0 z1 g0 g1 f0 f1
          go_wp2_with fail
          refine bodyPost_ret (v := .agg #[.string s, .slice q.A q.n q.c]) (by simp [results, Tryd.results76, go_sem, v0, v1, k0, k1]) rfl ⟨?_, .inr ⟨(s, ss), [.string s, .slice q.A q.n q.c], ?_, rfl, q, rfl, HSM.out, ?_⟩⟩
          · exact ((HOW.out.trans (HO5.out.mono (by simp))).setCell (.inr (Nat.le_refl _)) _).setCell (.inr (Nat.le_refl _)) _
          · have : rest3 = [] := by simpa using hn
            simp [attrP, HN.out, HN3.out, HN4.out, this]
          · have ho6 : Off [w.heap.size] w5 _ := ((Off.refl [w.heap.size] w5).setCell (p := ⟨w.heap.size, 0, none⟩) (.inl (by simp)) (.string s)).setCell (p := ⟨w.heap.size, 1, none⟩) (.inl (by simp)) (.slice q.A q.n q.c)
            have ho7 : Off [w2.heap.size, w.heap.size] w4 _ := (((Off.refl [w2.heap.size, w.heap.size] w4).setCell (p := ⟨w2.heap.size, 1, none⟩) (.inl (by simp)) (.slice q.A q.n q.c)).trans (HO5.out.mono (by simp))).trans (ho6.mono (by simp))
            exact HQ.out.keep strAt_stable ho7.size (fun x hx hlt => ho7.block x hlt (by simp; omega)) (fun x hx _ => by omega)
        · exact ⟨rfl, HOW.out.trans (ho5.mono (by simp)), .inl ⟨by
            have : rest3 ≠ [] := by rintro rfl; simp at hn
            simp [attrP, HN.out, HN3.out, HN4.out, this], rfl⟩⟩
end Go.Proofs.YtbiglfpikfjbpaaDoor
