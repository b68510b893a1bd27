/- A message's reader: the pieces of a filter. -/
import Derived.Test.YtbiglfpikfjbpaaDoorMsgSt
import Derived.Deep.RegionLaw
namespace Go.Proofs.YtbiglfpikfjbpaaDoor
open Go.RowKit
set_option maxRecDepth 100000
set_option linter.unusedVariables false
set_option linter.unusedSimpArgs false

/-- The pieces in the midst, and the rest. -/
def anyP : List Tl → List ByteArray × List Tl
  | [] => ([], [])
  | k :: rest => match headP 2 1 false (k :: rest) with
    | some (t, _) => (t.body :: (anyP rest).1, (anyP rest).2)
    | none => ([], k :: rest)
theorem anyP_none {ks : List Tl} (h : headP 2 1 false ks = none) : anyP ks = ([], ks) := by
  cases ks with
  | nil => rfl
  | cons k r => rw [anyP, h]
theorem anyP_some {ks rest : List Tl} {t : Tl} (h : headP 2 1 false ks = some (t, rest)) : anyP ks = (t.body :: (anyP rest).1, (anyP rest).2) := by
  obtain ⟨rfl, -⟩ := headP_some h
  rw [anyP, h]
/-- One piece or none. -/
def onceP (tag : Int) (ks : List Tl) : ByteArray × List Tl := match headP 2 tag false ks with
  | some (t, rest) => (t.body, rest)
  | none => (⟨#[]⟩, ks)
def piecesP (ks : List Tl) : Option (ByteArray × List ByteArray × ByteArray) :=
  let p := onceP 0 ks
  let q := anyP p.2
  let r := onceP 2 q.2
  if r.2 = [] then some (p.1, q.1, r.1) else none
theorem onceP_no {tag : Int} {ks : List Tl} (h : headP 2 tag false ks = none) : onceP tag ks = (⟨#[]⟩, ks) := by rw [onceP, h]
theorem onceP_yes {tag : Int} {ks rest : List Tl} {t : Tl} (h : headP 2 tag false ks = some (t, rest)) : onceP tag ks = (t.body, rest) := by rw [onceP, h]

def fcells (k : Int) (a v f : ByteArray) (u : Value) (l : ByteArray) (x : Value) : Array Value := #[.int .i64 k, .string a, .string v, .string f, u, .string l, x]
/-- The round of the loop over the pieces. -/
def PAt (w : World) (S : Nat → Prop) (b g : Nat) (k : Int) (a : ByteArray) (ks : List Tl) (f : ByteArray) (az : List ByteArray) (rest : List Tl) (u v : Value) (wr : World) : Prop :=
  St w S b g 25 wr v rest (fcells k a ⟨#[]⟩ f u ⟨#[]⟩ (.slice none 0 0)) ∧ GRow 9 1 StrAt wr w.heap.size u az ∧ (onceP 0 ks).1 = f ∧ anyP (onceP 0 ks).2 = (az ++ (anyP rest).1, (anyP rest).2) ∧ az.length + rest.length ≤ 8192
def PiecesPost (b g : Nat) (k : Int) (a : ByteArray) (r : Option (ByteArray × List ByteArray × ByteArray)) (w : World) (e : Ending) (w' : World) : Prop :=
  Off [b, g] w w' ∧ ((r = none ∧ ThrowsM e) ∨ ∃ (f l : ByteArray) (az : List ByteArray) (q : Rw), r = some (f, az, l) ∧ f.size ≤ maxLen ∧ l.size ≤ maxLen ∧ e = .returned (.tuple #[]) ∧ Bk w' g 25 (fcells k a ⟨#[]⟩ f (.slice q.A q.n q.c) l (.slice none 0 0)) ∧ SRow w' (fun x => w.heap.size ≤ x) q az)
theorem lies_at {u : Value} {gg n cap H W : Nat} (h : u.ownBlock = some gg ∨ gg = H) (hW : W = H) : (Value.slice (some ⟨gg, 0, none⟩) n cap).ownBlock = u.ownBlock ∨ (Value.slice (some ⟨gg, 0, none⟩) n cap).ownBlock = some W := by
  rcases h with h | h
  · exact .inl h.symm
  · exact .inr (by rw [hW, ← h]; rfl)
theorem PAt.next {w wr w2 w4 w5 : World} {S : Nat → Prop} {b g : Nat} {k : Int} {a : ByteArray} {ks : List Tl} {f s : ByteArray} {az : List ByteArray} {rest rest2 : List Tl} {t : Tl} {u u5 v v2 : Value} {css : List (List Value)}
    (F : Fix S b g w.heap.size) (h : St w S b g 25 wr v rest (fcells k a ⟨#[]⟩ f u ⟨#[]⟩ (.slice none 0 0))) (hcl : css.length = az.length) (hck : ∀ c ∈ css, c.length = 1) (hown : wr.ownsRow w.heap.size 9 1 u az.length css.flatten)
    (hall : ∀ (i : Nat) (d : ByteArray) (c : List Value), az[i]? = some d → css[i]? = some c → StrAt wr (fun b => w.heap.size ≤ b ∧ u.ownBlock ≠ some b) d c)
    (h3 : (onceP 0 ks).1 = f) (h4 : anyP (onceP 0 ks).2 = (az ++ (anyP rest).1, (anyP rest).2)) (h5 : az.length + rest.length ≤ 8192)
    (hn : headP 2 1 false rest = some (t, rest2)) (ht : t.body = s) (hsm : s.size ≤ maxLen) (ho : Off [b] wr w2) (hb2 : Bk w2 b 75 #[v2]) (hr2 : TRow w2 S v2 rest2)
    (h6 : Below w2.heap.size w2 w4) (hown5 : w5.ownsRow w.heap.size 9 1 u5 (az.length + 1) (css.flatten ++ [.string s])) (hgr : w4.grownBy w5 u.ownBlock) (hat : u5.ownBlock = u.ownBlock ∨ u5.ownBlock = some w4.heap.size) :
    PAt w S b g k a ks f (az ++ [s]) rest2 u5 v2 (w5.setCell ⟨g, 4, none⟩ u5) := by
  have hs := h.rd F ho hb2 hr2
  have s1 := h.off.size
  have s2 := ho.size
  have s3 := h6.size
  have s5 := hgr.size
  have hbel : Off [] w2 w4 := Off.of_below h6 []
  have hs4 := hs.quiet F hbel (by simp)
  have ho5 : ∀ x, x < w.heap.size → w5.heap[x]? = w4.heap[x]? := fun x hx => grown_keep hgr (B := w.heap.size) (fun g hg => (hown.lt g hg).1) x hx (by omega)
  have hs5 : St w S b g 25 w5 v2 rest2 (fcells k a ⟨#[]⟩ f u ⟨#[]⟩ (.slice none 0 0)) :=
    ⟨hs4.off.grown hgr (fun g hg => .inr (hown.lt g hg).1), hs4.row.keep (ho5 b F.bB), hs4.tr.keep s5 (fun x hx hlt => ho5 x (F.apart x hx).2.2) (fun _ h _ => h), hs4.ms.keep (ho5 g F.gB)⟩
  have hp : (w5.setCell ⟨g, 4, none⟩ u5).heap.size = w5.heap.size := by simp [World.setCell]
  refine ⟨hs5.put F 4 u5, GRow.keep strAt_stable (GRow.push strAt_stable (w := wr) (w1 := w2) (w2 := w4) s1 hcl hck hown hall (fun x hx hlt => ho.block x hlt (by have := F.bB; simp; omega)) s2 rfl ⟨rfl, hsm⟩ h6 hown5 hgr hat) (by omega) (fun x hx hlt => Below.heap_setCell w5 ⟨g, 4, none⟩ u5 x (by have := F.gB; show x ≠ g; omega)), h3, ?_, ?_⟩
  · rw [h4, anyP_some hn, ht]; simp
  · obtain ⟨rfl, -⟩ := headP_some hn
    simp at h5 ⊢; omega

set_option maxHeartbeats 4000000 in
theorem pieces_any (k : Int) (a : ByteArray) (b g : Nat) (v : Value) (ks : List Tl) (S : Nat → Prop) (w : World) (F : Fix S b g w.heap.size) (hb : Bk w b 75 #[v]) (hr : TRow w S v ks) (hlen : ks.length ≤ 8192)
    (hg : Bk w g 25 (fcells k a ⟨#[]⟩ ⟨#[]⟩ (.slice none 0 0) ⟨#[]⟩ (.slice none 0 0))) :
    Calls Tryd.prog 88 #[.pointer (some ⟨b, 0, none⟩), .pointer (some ⟨g, 0, none⟩)] w (PiecesPost b g k a (piecesP ks) w) := by
  obtain ⟨i0, hi, iz0, iz1, iz2⟩ := info_parts info_strE
  have HF := Lib.hid F
  have HS := Lib.hid (show St w S b g 25 w v ks _ from ⟨Off.refl _ _, hb, hr, hg⟩)
  clear hb hr hg F
  go_enter Tryd.func88, Tryd.ntmps88
  go_wp2_with fail
  (go_at_call 30)
  refine (may_r b v ks S 2 0 false _ HS.out.row HS.out.tr HF.out.nb).mono ?_
  rintro e w1 ⟨ho, hcs⟩
  rcases hcs with ⟨hn, rfl, hb1, hr1⟩ | ⟨s1, l1, rest1, A1, cap1, v1, hn, hz1, rfl, hb1, hr1, hk1⟩
  · have hs1 := HS.out.rd HF.out ho hb1 hr1
    have gl1 := hs1.ms.lt
    have HAT := Lib.hid (show PAt w S b g k a ks ⟨#[]⟩ [] ks (.slice none 0 0) v (w1.alloc (.cells #[.int .i64 0, .bool false, .int .i64 0, .string ⟨#[]⟩, .slice none 0 0] 38)) from
      ⟨hs1.new _, GRow.nil _ _, by rw [onceP_no hn], by rw [onceP_no hn]; simp, by simpa using hlen⟩)
    have HZF := Lib.hid (show (⟨#[]⟩ : ByteArray).size ≤ maxLen from Nat.zero_le _)
    clear ho hb1 hr1 hn hs1 HS hlen
    go_wp2_with fail
    go_loopw [7] (fun _ wr => ∃ (az : List ByteArray) (rest : List Tl) (u v : Value), PAt w S b g k a ks ⟨#[]⟩ az rest u v wr) (fun _ wr => rowLen (wr.cell? ⟨b, 0, none⟩))
    case atStart => exact ⟨_, _, _, _, HAT.out⟩
    case round =>
      clear HAT
      obtain ⟨az, rest, u, vr, hst, hgr, h3, h4, h5⟩ := hrel
      have HST := Lib.hid hst
      have H3 := Lib.hid h3
      have H4 := Lib.hid h4
      have H5 := Lib.hid h5
      have hsw := hst.off.size
      clear hst h3 h4 h5
      go_wp2_with fail
      (go_at_call 30)
      refine (may_r b vr rest S 2 1 false _ HST.out.row HST.out.tr HF.out.nb).mono ?_
      rintro e w2 ⟨ho, hcs⟩
      rcases hcs with ⟨hn, rfl, hb2, hr2⟩ | ⟨s2, l2, rest2, A2, cap2, v2, hn, hz2', rfl, hb2, hr2, hk2⟩
      · have hs2 := HST.out.rd HF.out ho hb2 hr2
        obtain ⟨q, rfl, hq⟩ := GRow.row strAt_stable (hgr.off strAt_stable ho (by have := HF.out.bB; simpa using this))
        have HQ := Lib.hid (hq.keep strAt_stable (w' := w2.alloc (.cells #[.int .i64 0, .bool false, .int .i64 0, .string ⟨#[]⟩, .slice none 0 0] 38)) (by simp) (fun x _ hlt => Below.heap_alloc w2 _ x hlt) (fun _ h _ => h))
        have H4' := Lib.hid (show anyP (onceP 0 ks).2 = (az, rest) by rw [H4.out, anyP_none hn]; simp)
        have HS2 := Lib.hid (hs2.new (.cells #[.int .i64 0, .bool false, .int .i64 0, .string ⟨#[]⟩, .slice none 0 0] 38))
        clear hb2 hr2 hs2 hgr hq ho hn HST
        go_wp2_with fail
        (go_at_call 30)
        refine (may_r b vr rest S 2 2 false _ HS2.out.row HS2.out.tr HF.out.nb).mono ?_
        rintro e w3 ⟨ho, hcs⟩
        have hq3 := HQ.out.keep strAt_stable (w' := w3) ho.size (fun x hx hlt => ho.block x hlt (by have := HF.out.bB; simp; omega)) (fun _ h _ => h)
        rcases hcs with ⟨hn, rfl, hb3, hr3⟩ | ⟨s3, l3, rest3, A3, cap3, v3, hn, hz3, rfl, hb3, hr3, hk3⟩
        · have hs3 := (HS2.out.rd HF.out ho hb3 hr3).new (.cells #[.int .i64 0, .bool false, .int .i64 0, .string ⟨#[]⟩, .slice none 0 0] 38)
          have HS3 := Lib.hid hs3
          have HQ3 := Lib.hid (hq3.keep strAt_stable (w' := w3.alloc (.cells #[.int .i64 0, .bool false, .int .i64 0, .string ⟨#[]⟩, .slice none 0 0] 38)) (by simp) (fun x _ hlt => Below.heap_alloc w3 _ x hlt) (fun _ h _ => h))
          have HP := Lib.hid (show piecesP ks = if rest = [] then some (⟨#[]⟩, az, ⟨#[]⟩) else none by simp only [piecesP, H3.out, H4'.out, onceP_no hn])
          obtain ⟨A4, cap4, hv4, -⟩ := _root_.id hr3
          subst hv4
          have HE := Lib.hid (end_any b rest.length A4 cap4 _ HS3.out.row)
          clear hb3 hr3 hs3 hq3 ho hn HS2
          go_wp2_with fail
          (go_at_call 32)
          refine HE.out.mono ?_
          rintro e w4 ⟨ho, hcs⟩
          have hs4 := HS3.out.quiet HF.out ho (by simp)
          have hq4 := HQ3.out.keep strAt_stable (w' := w4) ho.size (fun x hx hlt => ho.block x hlt (by simp)) (fun _ h _ => h)
          rcases hcs.symm with ⟨hn, rfl⟩ | ⟨hn, rfl⟩
          · have hl : rest ≠ [] := by intro h; rw [h] at hn; simp at hn
            exact ⟨rfl, hs4.off, .inl ⟨by rw [HP.out, if_neg hl], rfl⟩⟩
          · have hl : rest = [] := by simpa using hn
            have HS4 := Lib.hid hs4
            have HQ4 := Lib.hid hq4
            have HL := Lib.hid hl
            clear hs4 hq4 ho hn hl HS3
            go_wp2_with fail
            go_end0
            exact ⟨HS4.out.off, .inr ⟨⟨#[]⟩, _, az, q, by rw [HP.out, if_pos HL.out], HZF.out, Nat.zero_le _, rfl, HS4.out.ms, HQ4.out⟩⟩
        · have hs3 := HS2.out.rd HF.out ho hb3 hr3
          have q5 : w3.cell? ⟨g, 5, none⟩ = some (.string ⟨#[]⟩) := hs3.cell 5
          have f5 := hs3.frozen 5
          have gl3 := hs3.ms.lt
          have hs3' := (hs3.put HF.out 5 (.string s3)).new (.cells #[.int .i64 2, .bool false, .int .i64 2, .string s3, .slice A3 l3.length cap3] 38)
          have HS3 := Lib.hid hs3'
          have hgne : ∀ x, w.heap.size ≤ x → x ≠ g := fun x hx => by have := HF.out.gB; omega
          have hq3b := hq3.keep strAt_stable (w' := w3.setCell ⟨g, 5, none⟩ (.string s3)) (by simp [World.setCell]) (fun x hx hlt => Below.heap_setCell w3 ⟨g, 5, none⟩ _ x (hgne x hx)) (fun _ h _ => h)
          have HQ3 := Lib.hid (hq3b.keep strAt_stable (w' := (w3.setCell ⟨g, 5, none⟩ (.string s3)).alloc (.cells #[.int .i64 2, .bool false, .int .i64 2, .string s3, .slice A3 l3.length cap3] 38)) (by simp) (fun x _ hlt => Below.heap_alloc _ _ x hlt) (fun _ h _ => h))
          have HP := Lib.hid (show piecesP ks = if rest3 = [] then some (⟨#[]⟩, az, s3) else none by simp only [piecesP, H3.out, H4'.out, onceP_yes hn, Tl.body])
          obtain ⟨A4, cap4, hv4, -⟩ := _root_.id hr3
          subst hv4
          have HE := Lib.hid (end_any b rest3.length A4 cap4 _ HS3.out.row)
          have HZ3 := Lib.hid hz3
          clear hb3 hr3 hs3 hs3' hq3 hq3b ho hn HS2 hgne hk3 hz3
          go_wp2_with fail
          (go_at_call 32)
          refine HE.out.mono ?_
          rintro e w4 ⟨ho, hcs⟩
          have hs4 := HS3.out.quiet HF.out ho (by simp)
          have hq4 := HQ3.out.keep strAt_stable (w' := w4) ho.size (fun x hx hlt => ho.block x hlt (by simp)) (fun _ h _ => h)
          rcases hcs.symm with ⟨hn, rfl⟩ | ⟨hn, rfl⟩
          · have hl : rest3 ≠ [] := by intro h; rw [h] at hn; simp at hn
            exact ⟨rfl, hs4.off, .inl ⟨by rw [HP.out, if_neg hl], rfl⟩⟩
          · have hl : rest3 = [] := by simpa using hn
            have HS4 := Lib.hid hs4
            have HQ4 := Lib.hid hq4
            have HL := Lib.hid hl
            clear hs4 hq4 ho hn hl HS3 q5 f5
            go_wp2_with fail
            go_end0
            exact ⟨HS4.out.off, .inr ⟨⟨#[]⟩, s3, az, q, by rw [HP.out, if_pos HL.out], HZF.out, HZ3.out, rfl, HS4.out.ms, HQ4.out⟩⟩
      · have hs2 := HST.out.rd HF.out ho hb2 hr2
        have gl2 := hs2.ms.lt
        have q4 : w2.cell? ⟨g, 4, none⟩ = some u := hs2.cell 4
        have f4 := hs2.frozen 4
        obtain ⟨css, hcl, hck, hown, hall⟩ := hgr
        have hown2 := ho.own hown (fun x hx => by have := (hown.lt x hx).1; have := HF.out.bB; simp; omega)
        have hune : u.ownBlock ≠ some g := fun e => by have := (hown.lt _ e).1; have := HF.out.gB; omega
        have HX := Lib.hid (fun (w5 : World) (u5 : Value) (W : World) => PAt.next (w4 := W) (w5 := w5) (u5 := u5) HF.out HST.out hcl hck hown hall H3.out H4.out H5.out hn rfl hz2' ho hb2 hr2)
        have haz : az.length < 8192 := by obtain ⟨h, -⟩ := headP_some hn; have := H5.out; rw [h] at this; simp at this; omega
        have hl2 : rest2.length < rest.length := by obtain ⟨h, -⟩ := headP_some hn; rw [h]; simp
        have hsw2 := ho.size
        have HOWN := Lib.hid hown2
        have hB2 : Below w2.heap.size w2 ((w2.alloc (.cells #[.int .i64 2, .bool false, .int .i64 1, .string s2, .slice A2 l2.length cap2] 38)).alloc (.cells #[.string s2] 9)) := ((Below.refl _ w2).alloc (Nat.le_refl _) _).alloc (by simp) _
        have HB2 := Lib.hid hB2
        have HBK := Lib.hid HST.out.row
        have HTR := Lib.hid HST.out.tr
        clear hb2 hr2 hs2 ho hn HST hcl hck hall hown hk2 hz2' hown2 hB2 H3 H4 H5
        have hnews : ∀ (j : Nat) (y : Value), [Value.string s2][j]? = some y → ((w2.alloc (.cells #[.int .i64 2, .bool false, .int .i64 1, .string s2, .slice A2 l2.length cap2] 38)).alloc (.cells #[.string s2] 9)).cell? ((⟨w2.heap.size + 1, 0, none⟩ : Addr).add j) = some y := by
          have h := World.news_of_block (cs := #[.string s2]) (t := 9) (fr := (0, 0)) (heap_alloc_new (w2.alloc (.cells #[.int .i64 2, .bool false, .int .i64 1, .string s2, .slice A2 l2.length cap2] 38)) (.cells #[.string s2] 9))
          simpa using h
        have HNEWS := Lib.hid hnews
        have hst0 := two_alloc q4 f4 gl2 (.cells #[.int .i64 2, .bool false, .int .i64 1, .string s2, .slice A2 l2.length cap2] 38)
        have hst := two_alloc hst0.1 hst0.2 (by simp; omega) (.cells #[.string s2] 9)
        have HSTG := Lib.hid hst
        have HGL := Lib.hid (show g < ((w2.alloc (.cells #[.int .i64 2, .bool false, .int .i64 1, .string s2, .slice A2 l2.length cap2] 38)).alloc (.cells #[.string s2] 9)).heap.size from Nat.lt_of_lt_of_le gl2 HB2.out.size)
        clear hnews hst hst0
        go_wp2_with fail
        go_region_law ((refine step_append_lies _ ?g1 (.tmp 32) (.tmp 35) 22 ?g2 w.heap.size 9 i0 (.string ByteArray.empty) 1 16 Tryd.underlying22 hi iz0 iz1 iz2 ?q1 ?q2 u az.length css.flatten ?q3 ?q4 ⟨w2.heap.size + 1, 0, none⟩ 1 1 [.string s2] ?q5 ?q6 ?q7 ?q8 ?q9 ?q10 ?q11 ?q12 (w2.heap.size + 2) ?q13 ?_; (case g1 => (rfl)); (case g2 => (rfl)); (case q1 => (rfl)); (case q2 => (omega)); (case q3 => (rfl)); (case q4 => (exact ((HOWN.out.alloc _).alloc _))); (case q5 => (rfl)); (case q6 => (rfl)); (case q7 => (exact HNEWS.out)); (case q8 => (exact (fun x hx => by simp at hx; subst hx; rfl))); (case q9 => (omega)); (case q10 => (unfold maxLen; omega)); (case q11 => (omega)); (case q12 => (simp; omega)); (case q13 => (simp)); intro gg cap5 w5 hown5 hgrow5 hat5 hlt5; have hkg := (fun h1 h2 => two_grown h1 hgrow5 hune h2) HSTG.out HGL.out; have hkg1 := hkg.1; have hkg2 := hkg.2))
        all_goals
          go_wp2_with fail
          have HN := Lib.hid (HX.out w5 (.slice (some ⟨gg, 0, none⟩) (az.length + 1) cap5) _ (below_drewN HB2.out 1) hown5 hgrow5 (lies_at hat5 (by simp)))
          clear hown5 hgrow5 hat5 hkg hkg1 hkg2
          go_roundw
          case rel => exact ⟨_, _, _, _, HN.out⟩
          case measure =>
            obtain ⟨-, hbk, ⟨A9, cap9, rfl, -⟩, -⟩ := HN.out.1
            have e1 := hbk.cell 0
            obtain ⟨A8, cap8, rfl, -⟩ := HTR.out
            have e2 := HBK.out.cell 0
            rw [e1, e2]
            exact hl2
  · have hs1 := HS.out.rd HF.out ho hb1 hr1
    have gl1 := hs1.ms.lt
    have q3 : w1.cell? ⟨g, 3, none⟩ = some (.string ⟨#[]⟩) := hs1.cell 3
    have f3 := hs1.frozen 3
    have hp1 : St w S b g 25 (w1.setCell ⟨g, 3, none⟩ (.string s1)) v1 rest1 (fcells k a ⟨#[]⟩ s1 (.slice none 0 0) ⟨#[]⟩ (.slice none 0 0)) := hs1.put HF.out 3 (.string s1)
    have HAT := Lib.hid (show PAt w S b g k a ks s1 [] rest1 (.slice none 0 0) v1 ((w1.setCell ⟨g, 3, none⟩ (.string s1)).alloc (.cells #[.int .i64 2, .bool false, .int .i64 0, .string s1, .slice A1 l1.length cap1] 38)) from
      ⟨hp1.new _, GRow.nil _ _, by rw [onceP_yes hn]; rfl, by rw [onceP_yes hn]; simp, by obtain ⟨h, -⟩ := headP_some hn; rw [h] at hlen; simp at hlen ⊢; omega⟩)
    have HZF := Lib.hid hz1
    clear ho hb1 hr1 hn hs1 HS hlen hp1 hz1 hk1
    go_wp2_with fail
    go_loopw [7] (fun _ wr => ∃ (az : List ByteArray) (rest : List Tl) (u v : Value), PAt w S b g k a ks s1 az rest u v wr) (fun _ wr => rowLen (wr.cell? ⟨b, 0, none⟩))
    case atStart => exact ⟨_, _, _, _, HAT.out⟩
    case round =>
      clear HAT
      obtain ⟨az, rest, u, vr, hst, hgr, h3, h4, h5⟩ := hrel
      have HST := Lib.hid hst
      have H3 := Lib.hid h3
      have H4 := Lib.hid h4
      have H5 := Lib.hid h5
      have hsw := hst.off.size
      clear hst h3 h4 h5
      go_wp2_with fail
      (go_at_call 30)
      refine (may_r b vr rest S 2 1 false _ HST.out.row HST.out.tr HF.out.nb).mono ?_
      rintro e w2 ⟨ho, hcs⟩
      rcases hcs with ⟨hn, rfl, hb2, hr2⟩ | ⟨s2, l2, rest2, A2, cap2, v2, hn, hz2', rfl, hb2, hr2, hk2⟩
      · have hs2 := HST.out.rd HF.out ho hb2 hr2
        obtain ⟨q, rfl, hq⟩ := GRow.row strAt_stable (hgr.off strAt_stable ho (by have := HF.out.bB; simpa using this))
        have HQ := Lib.hid (hq.keep strAt_stable (w' := w2.alloc (.cells #[.int .i64 0, .bool false, .int .i64 0, .string ⟨#[]⟩, .slice none 0 0] 38)) (by simp) (fun x _ hlt => Below.heap_alloc w2 _ x hlt) (fun _ h _ => h))
        have H4' := Lib.hid (show anyP (onceP 0 ks).2 = (az, rest) by rw [H4.out, anyP_none hn]; simp)
        have HS2 := Lib.hid (hs2.new (.cells #[.int .i64 0, .bool false, .int .i64 0, .string ⟨#[]⟩, .slice none 0 0] 38))
        clear hb2 hr2 hs2 hgr hq ho hn HST
        go_wp2_with fail
        (go_at_call 30)
        refine (may_r b vr rest S 2 2 false _ HS2.out.row HS2.out.tr HF.out.nb).mono ?_
        rintro e w3 ⟨ho, hcs⟩
        have hq3 := HQ.out.keep strAt_stable (w' := w3) ho.size (fun x hx hlt => ho.block x hlt (by have := HF.out.bB; simp; omega)) (fun _ h _ => h)
        rcases hcs with ⟨hn, rfl, hb3, hr3⟩ | ⟨s3, l3, rest3, A3, cap3, v3, hn, hz3, rfl, hb3, hr3, hk3⟩
        · have hs3 := (HS2.out.rd HF.out ho hb3 hr3).new (.cells #[.int .i64 0, .bool false, .int .i64 0, .string ⟨#[]⟩, .slice none 0 0] 38)
          have HS3 := Lib.hid hs3
          have HQ3 := Lib.hid (hq3.keep strAt_stable (w' := w3.alloc (.cells #[.int .i64 0, .bool false, .int .i64 0, .string ⟨#[]⟩, .slice none 0 0] 38)) (by simp) (fun x _ hlt => Below.heap_alloc w3 _ x hlt) (fun _ h _ => h))
          have HP := Lib.hid (show piecesP ks = if rest = [] then some (s1, az, ⟨#[]⟩) else none by simp only [piecesP, H3.out, H4'.out, onceP_no hn])
          obtain ⟨A4, cap4, hv4, -⟩ := _root_.id hr3
          subst hv4
          have HE := Lib.hid (end_any b rest.length A4 cap4 _ HS3.out.row)
          clear hb3 hr3 hs3 hq3 ho hn HS2
          go_wp2_with fail
          (go_at_call 32)
          refine HE.out.mono ?_
          rintro e w4 ⟨ho, hcs⟩
          have hs4 := HS3.out.quiet HF.out ho (by simp)
          have hq4 := HQ3.out.keep strAt_stable (w' := w4) ho.size (fun x hx hlt => ho.block x hlt (by simp)) (fun _ h _ => h)
          rcases hcs.symm with ⟨hn, rfl⟩ | ⟨hn, rfl⟩
          · have hl : rest ≠ [] := by intro h; rw [h] at hn; simp at hn
            exact ⟨rfl, hs4.off, .inl ⟨by rw [HP.out, if_neg hl], rfl⟩⟩
          · have hl : rest = [] := by simpa using hn
            have HS4 := Lib.hid hs4
            have HQ4 := Lib.hid hq4
            have HL := Lib.hid hl
            clear hs4 hq4 ho hn hl HS3
            go_wp2_with fail
            go_end0
            exact ⟨HS4.out.off, .inr ⟨s1, _, az, q, by rw [HP.out, if_pos HL.out], HZF.out, Nat.zero_le _, rfl, HS4.out.ms, HQ4.out⟩⟩
        · have hs3 := HS2.out.rd HF.out ho hb3 hr3
          have q5 : w3.cell? ⟨g, 5, none⟩ = some (.string ⟨#[]⟩) := hs3.cell 5
          have f5 := hs3.frozen 5
          have gl3 := hs3.ms.lt
          have hs3' := (hs3.put HF.out 5 (.string s3)).new (.cells #[.int .i64 2, .bool false, .int .i64 2, .string s3, .slice A3 l3.length cap3] 38)
          have HS3 := Lib.hid hs3'
          have hgne : ∀ x, w.heap.size ≤ x → x ≠ g := fun x hx => by have := HF.out.gB; omega
          have hq3b := hq3.keep strAt_stable (w' := w3.setCell ⟨g, 5, none⟩ (.string s3)) (by simp [World.setCell]) (fun x hx hlt => Below.heap_setCell w3 ⟨g, 5, none⟩ _ x (hgne x hx)) (fun _ h _ => h)
          have HQ3 := Lib.hid (hq3b.keep strAt_stable (w' := (w3.setCell ⟨g, 5, none⟩ (.string s3)).alloc (.cells #[.int .i64 2, .bool false, .int .i64 2, .string s3, .slice A3 l3.length cap3] 38)) (by simp) (fun x _ hlt => Below.heap_alloc _ _ x hlt) (fun _ h _ => h))
          have HP := Lib.hid (show piecesP ks = if rest3 = [] then some (s1, az, s3) else none by simp only [piecesP, H3.out, H4'.out, onceP_yes hn, Tl.body])
          obtain ⟨A4, cap4, hv4, -⟩ := _root_.id hr3
          subst hv4
          have HE := Lib.hid (end_any b rest3.length A4 cap4 _ HS3.out.row)
          have HZ3 := Lib.hid hz3
          clear hb3 hr3 hs3 hs3' hq3 hq3b ho hn HS2 hgne hk3 hz3
          go_wp2_with fail
          (go_at_call 32)
          refine HE.out.mono ?_
          rintro e w4 ⟨ho, hcs⟩
          have hs4 := HS3.out.quiet HF.out ho (by simp)
          have hq4 := HQ3.out.keep strAt_stable (w' := w4) ho.size (fun x hx hlt => ho.block x hlt (by simp)) (fun _ h _ => h)
          rcases hcs.symm with ⟨hn, rfl⟩ | ⟨hn, rfl⟩
          · have hl : rest3 ≠ [] := by intro h; rw [h] at hn; simp at hn
            exact ⟨rfl, hs4.off, .inl ⟨by rw [HP.out, if_neg hl], rfl⟩⟩
          · have hl : rest3 = [] := by simpa using hn
            have HS4 := Lib.hid hs4
            have HQ4 := Lib.hid hq4
            have HL := Lib.hid hl
            clear hs4 hq4 ho hn hl HS3 q5 f5
            go_wp2_with fail
            go_end0
            exact ⟨HS4.out.off, .inr ⟨s1, s3, az, q, by rw [HP.out, if_pos HL.out], HZF.out, HZ3.out, rfl, HS4.out.ms, HQ4.out⟩⟩
      · have hs2 := HST.out.rd HF.out ho hb2 hr2
        have gl2 := hs2.ms.lt
        have q4 : w2.cell? ⟨g, 4, none⟩ = some u := hs2.cell 4
        have f4 := hs2.frozen 4
        obtain ⟨css, hcl, hck, hown, hall⟩ := hgr
        have hown2 := ho.own hown (fun x hx => by have := (hown.lt x hx).1; have := HF.out.bB; simp; omega)
        have hune : u.ownBlock ≠ some g := fun e => by have := (hown.lt _ e).1; have := HF.out.gB; omega
        have HX := Lib.hid (fun (w5 : World) (u5 : Value) (W : World) => PAt.next (w4 := W) (w5 := w5) (u5 := u5) HF.out HST.out hcl hck hown hall H3.out H4.out H5.out hn rfl hz2' ho hb2 hr2)
        have haz : az.length < 8192 := by obtain ⟨h, -⟩ := headP_some hn; have := H5.out; rw [h] at this; simp at this; omega
        have hl2 : rest2.length < rest.length := by obtain ⟨h, -⟩ := headP_some hn; rw [h]; simp
        have hsw2 := ho.size
        have HOWN := Lib.hid hown2
        have hB2 : Below w2.heap.size w2 ((w2.alloc (.cells #[.int .i64 2, .bool false, .int .i64 1, .string s2, .slice A2 l2.length cap2] 38)).alloc (.cells #[.string s2] 9)) := ((Below.refl _ w2).alloc (Nat.le_refl _) _).alloc (by simp) _
        have HB2 := Lib.hid hB2
        have HBK := Lib.hid HST.out.row
        have HTR := Lib.hid HST.out.tr
        clear hb2 hr2 hs2 ho hn HST hcl hck hall hown hk2 hz2' hown2 hB2 H3 H4 H5
        have hnews : ∀ (j : Nat) (y : Value), [Value.string s2][j]? = some y → ((w2.alloc (.cells #[.int .i64 2, .bool false, .int .i64 1, .string s2, .slice A2 l2.length cap2] 38)).alloc (.cells #[.string s2] 9)).cell? ((⟨w2.heap.size + 1, 0, none⟩ : Addr).add j) = some y := by
          have h := World.news_of_block (cs := #[.string s2]) (t := 9) (fr := (0, 0)) (heap_alloc_new (w2.alloc (.cells #[.int .i64 2, .bool false, .int .i64 1, .string s2, .slice A2 l2.length cap2] 38)) (.cells #[.string s2] 9))
          simpa using h
        have HNEWS := Lib.hid hnews
        have hst0 := two_alloc q4 f4 gl2 (.cells #[.int .i64 2, .bool false, .int .i64 1, .string s2, .slice A2 l2.length cap2] 38)
        have hst := two_alloc hst0.1 hst0.2 (by simp; omega) (.cells #[.string s2] 9)
        have HSTG := Lib.hid hst
        have HGL := Lib.hid (show g < ((w2.alloc (.cells #[.int .i64 2, .bool false, .int .i64 1, .string s2, .slice A2 l2.length cap2] 38)).alloc (.cells #[.string s2] 9)).heap.size from Nat.lt_of_lt_of_le gl2 HB2.out.size)
        clear hnews hst hst0
        go_wp2_with fail
        go_region_law ((refine step_append_lies _ ?g1 (.tmp 32) (.tmp 35) 22 ?g2 w.heap.size 9 i0 (.string ByteArray.empty) 1 16 Tryd.underlying22 hi iz0 iz1 iz2 ?q1 ?q2 u az.length css.flatten ?q3 ?q4 ⟨w2.heap.size + 1, 0, none⟩ 1 1 [.string s2] ?q5 ?q6 ?q7 ?q8 ?q9 ?q10 ?q11 ?q12 (w2.heap.size + 2) ?q13 ?_; (case g1 => (rfl)); (case g2 => (rfl)); (case q1 => (rfl)); (case q2 => (omega)); (case q3 => (rfl)); (case q4 => (exact ((HOWN.out.alloc _).alloc _))); (case q5 => (rfl)); (case q6 => (rfl)); (case q7 => (exact HNEWS.out)); (case q8 => (exact (fun x hx => by simp at hx; subst hx; rfl))); (case q9 => (omega)); (case q10 => (unfold maxLen; omega)); (case q11 => (omega)); (case q12 => (simp; omega)); (case q13 => (simp)); intro gg cap5 w5 hown5 hgrow5 hat5 hlt5; have hkg := (fun h1 h2 => two_grown h1 hgrow5 hune h2) HSTG.out HGL.out; have hkg1 := hkg.1; have hkg2 := hkg.2))
        all_goals
          go_wp2_with fail
          have HN := Lib.hid (HX.out w5 (.slice (some ⟨gg, 0, none⟩) (az.length + 1) cap5) _ (below_drewN HB2.out 1) hown5 hgrow5 (lies_at hat5 (by simp)))
          clear hown5 hgrow5 hat5 hkg hkg1 hkg2
          go_roundw
          case rel => exact ⟨_, _, _, _, HN.out⟩
          case measure =>
            obtain ⟨-, hbk, ⟨A9, cap9, rfl, -⟩, -⟩ := HN.out.1
            have e1 := hbk.cell 0
            obtain ⟨A8, cap8, rfl, -⟩ := HTR.out
            have e2 := HBK.out.cell 0
            rw [e1, e2]
            exact hl2
end Go.Proofs.YtbiglfpikfjbpaaDoor
