/- Merged by program: MsgWeigh MsgOpAny MsgEncW. -/
import Derived.Test.YtbiglfpikfjbpaaDoorMsgFRight
import Derived.Test.YtbiglfpikfjbpaaDoorMsgFilter2
import Derived.Deep.CutBlock
import Derived.Deep.CutRange
import Derived.Test.YtbiglfpikfjbpaaDoorMsgWD
import Derived.Test.YtbiglfpikfjbpaaDoorMsgEnc
/- The reference's Weigh: what weighs little has few parts. -/
namespace Go.Proofs.YtbiglfpikfjbpaaDoor
open Go.RowKit
set_option maxRecDepth 100000
set_option linter.unusedVariables false
set_option linter.unusedSimpArgs false
def WvPost (n : Int) (l : Nat) (w : World) (e : Ending) (w' : World) : Prop := w = w' ∧ ∃ k : Int, e = .returned (.int .i64 k) ∧ n < k ∧ k ≤ 80002 ∧ (k ≤ 40000 → l ≤ 40000)
theorem min_to (s : ByteArray) (h : s.size ≤ maxLen) : ∃ x : Int, (if (40001 : Int) < (s.size : Int) then 40001 else (s.size : Int)) = x ∧ 0 ≤ x ∧ x ≤ 40001 := by
  refine ⟨_, rfl, ?_, ?_⟩ <;> split <;> omega
set_option maxHeartbeats 4000000 in
theorem values_any (name : ByteArray) (q : Rw) (ss : List ByteArray) (n : Int) (S : Nat → Prop) (w : World) (h : SRow w S q ss) (hz : name.size ≤ maxLen) (hn1 : 0 ≤ n) (hn2 : n ≤ 40000) :
    Calls Tryd.prog 14 #[.string name, .slice q.A q.n q.c, .int .i64 n] w (WvPost n ss.length w) := by
  obtain ⟨qA, qn, qc⟩ := q
  obtain ⟨h1, h2, h3, h4⟩ := h
  simp only at h1 h2 h3 h4 ⊢
  subst h1
  have H4 := Lib.hid h4
  have hcm : qc ≤ 9223372036854775807 := by unfold maxLen at h3; omega
  obtain ⟨x, hx, hx1, hx2⟩ := min_to name hz
  clear h4 h3
  go_enter Tryd.func14, Tryd.ntmps14
  go_wp2_with fail
  go_loopw [2, 7] (fun u i wr => ∃ (j : Nat) (k : Int), i = .int .i64 j ∧ u = .int .i64 k ∧ j ≤ ss.length ∧ n < k ∧ k ≤ 80002 ∧ (j : Int) ≤ k ∧ wr = w) (fun _ i _ => ss.length - (intOf i).toNat)
  case atStart => exact ⟨0, n + 1 + x, rfl, by go_num, Nat.zero_le _, by omega, by omega, by omega, by first | rfl | trivial⟩
  case round =>
    obtain ⟨j, k, rfl, rfl, hj, hk1, hk2, hk3, rfl⟩ := hrel
    by_cases hlt : j < ss.length
    · have z1 : decide ((j : Int) < (ss.length : Int)) = true := decide_eq_true (by omega)
      by_cases hk : k ≤ 40000
      · have z2 : decide (k ≤ 40000) = true := decide_eq_true hk
        obtain ⟨b, o, c, rfl, hS, hcl, hc, hat, hsz⟩ := H4.out j ss[j] (List.getElem?_eq_getElem hlt)
        subst hat
        have q0 : wr.cell? ⟨b, o + j, none⟩ = some (.string ss[j]) := by have := hc 0 _ rfl; rw [Nat.mul_one, Nat.add_zero] at this; exact this
        have hbw := hS.2
        obtain ⟨s, hs⟩ : ∃ s, s = ss[j] := ⟨_, rfl⟩
        rw [← hs] at q0 hsz
        obtain ⟨y, hy, hy1, hy2⟩ := min_to s hsz
        clear hc hS hs hcl
        go_wp2_with fail
        go_roundw
        case rel => exact ⟨j + 1, k + 1 + y, by go_num, by go_num, by omega, by omega, by omega, by omega, by first | rfl | trivial⟩
        case measure => simp [intOf]; omega
      · have z2 : decide (k ≤ 40000) = false := decide_eq_false hk
        go_wp2_with fail
        go_ret
        exact ⟨rfl, k, rfl, hk1, hk2, fun h => by omega⟩
    · have z1 : decide ((j : Int) < (ss.length : Int)) = false := decide_eq_false (by omega)
      go_wp2_with fail
      go_ret
      exact ⟨rfl, k, rfl, hk1, hk2, fun h => by omega⟩
theorem min_five (s : ByteArray) (h : s.size ≤ maxLen) : ∃ x : Int, (if (5001 : Int) < (s.size : Int) then 5001 else (s.size : Int)) = x ∧ 0 ≤ x ∧ x ≤ 5001 := by
  refine ⟨_, rfl, ?_, ?_⟩ <;> split <;> omega
def FwPost (w : World) (e : Ending) (w' : World) : Prop := Below w.heap.size w w' ∧ ∃ k : Int, e = .returned (.int .i64 k) ∧ 0 ≤ k ∧ k ≤ 25005
set_option maxHeartbeats 4000000 in
theorem fweigh_one (f : Fl) (c : List Value) (S : Nat → Prop) (n d : Int) (w : World) (h : FlAt w S f c) (hn : 0 ≤ n ∧ n ≤ 5000) (hd : 0 ≤ d ∧ d ≤ 61)
    (ih : ∀ (k a v g any l kids), f = .mk k a v g any l kids → ∀ y ∈ kids, ∀ (c : List Value) (S : Nat → Prop) (n d : Int) (w : World), FlAt w S y c → 0 ≤ n ∧ n ≤ 5000 → 0 ≤ d ∧ d ≤ 61 → Calls Tryd.prog 35 #[.agg c.toArray, .int .i64 n, .int .i64 d] w (FwPost w)) :
    Calls Tryd.prog 35 #[.agg c.toArray, .int .i64 n, .int .i64 d] w (FwPost w) := by
  obtain ⟨k, a, v, g, any, l, kids⟩ := f
  have IH := Lib.hid (ih k a v g any l kids rfl)
  clear ih
  unfold FlAt at h
  obtain ⟨⟨qA, qn, qc⟩, ⟨rA, rn, rc⟩, rfl, ⟨-, hz1, hz2, hz3, hz4⟩, ⟨hq1, hq2, hq3, hq4⟩, ⟨hr1, hr2, hr3⟩, hks⟩ := h
  simp only at hq1 hq2 hq3 hq4 hr1 hr2 hr3 hks ⊢
  subst hr1 hq1
  have hb := (Below.refl w.heap.size w).alloc (Nat.le_refl _) (.cells #[.int .i64 k, .string a, .string v, .string g, .slice qA any.length qc, .string l, .slice rA kids.length rc] 25)
  have hbx := Bk.new w 25 #[.int .i64 k, .string a, .string v, .string g, .slice qA any.length qc, .string l, .slice rA kids.length rc]
  obtain ⟨w1, hw1⟩ : ∃ w1, w1 = w.alloc (.cells #[.int .i64 k, .string a, .string v, .string g, .slice qA any.length qc, .string l, .slice rA kids.length rc] 25) := ⟨_, rfl⟩
  rw [← hw1] at hb hbx
  have HW1 := Lib.hid hw1
  have HB := Lib.hid hb
  have HBX := Lib.hid hbx
  obtain ⟨hn1, hn2⟩ := hn
  obtain ⟨hd1, hd2⟩ := hd
  have hqm : qc ≤ 9223372036854775807 := by unfold maxLen at hq3; omega
  have hrm : rc ≤ 9223372036854775807 := by unfold maxLen at hr3; omega
  have HQ := Lib.hid hq4
  have HK := Lib.hid hks
  obtain ⟨x1, hx1, hx1a, hx1b⟩ := min_five a hz1
  obtain ⟨x2, hx2, hx2a, hx2b⟩ := min_five v hz2
  obtain ⟨x3, hx3, hx3a, hx3b⟩ := min_five g hz3
  obtain ⟨x4, hx4, hx4a, hx4b⟩ := min_five l hz4
  clear hb hbx hw1 hq4 hks hq3 hr3
  by_cases h60 : 60 < d
  · have z0 : decide (60 < d) = true := decide_eq_true h60
    go_enter Tryd.func35, Tryd.ntmps35
    go_wp2_with fail
    go_ret
    exact ⟨by rw [← HW1.out]; exact HB.out, _, rfl, by omega, by omega⟩
  have z0 : decide (60 < d) = false := decide_eq_false h60
  go_enter Tryd.func35, Tryd.ntmps35
  go_upto_block 0 with (fail)
  rw [← HW1.out]
  go_cut [1, 7] from 33 to 53 (fun v _ wx => ∃ y : Int, v = .int .i64 y ∧ 0 ≤ y ∧ y ≤ 25005 ∧ wx = w1)
  case first =>
    have q4 : w1.cell? ⟨w.heap.size, 4, none⟩ = some (.slice qA any.length qc) := HBX.out.cell 4
    have hlt1 := HBX.out.lt
    go_wp2_with fail
    go_loopw [1, 7] (fun u i wr => ∃ (j : Nat) (y : Int), i = .int .i64 j ∧ u = .int .i64 y ∧ j ≤ any.length ∧ 0 ≤ y ∧ y ≤ 25005 ∧ wr = w1) (fun _ i _ => any.length - (intOf i).toNat)
    case atStart => exact ⟨0, n + 1 + x1 + x2 + x3 + x4, rfl, by go_num, Nat.zero_le _, by omega, by omega, rfl⟩
    case round =>
      obtain ⟨j, y, rfl, rfl, hj, hy1, hy2, hwr⟩ := hrel
      subst hwr
      by_cases hlt : j < any.length
      · have z1 : decide ((j : Int) < (any.length : Int)) = true := decide_eq_true (by omega)
        by_cases hk : y ≤ 5000
        · have z2 : decide (y ≤ 5000) = true := decide_eq_true hk
          obtain ⟨b, o, c, rfl, hS, hcl, hc, hat, hsz⟩ := HQ.out j any[j] (List.getElem?_eq_getElem hlt)
          subst hat
          have hbw := hS.2
          have hbw1 : b < wr.heap.size := Nat.lt_of_lt_of_le hbw HB.out.size
          have q0 : wr.cell? ⟨b, o + j, none⟩ = some (.string any[j]) := by have := hc 0 _ rfl; rw [Nat.mul_one, Nat.add_zero] at this; exact (HB.out.cell (p := ⟨b, o + j, none⟩) hbw).trans this
          obtain ⟨s, hs⟩ : ∃ s, s = any[j] := ⟨_, rfl⟩
          rw [← hs] at q0 hsz
          obtain ⟨y2, hy, hy3, hy4⟩ := min_five s hsz
          clear hc hS hs hcl
          go_wp2_with fail
          go_roundw
          case rel => exact ⟨j + 1, y + 1 + y2, by go_num, by go_num, by omega, by omega, by omega, by first | rfl | trivial⟩
          case measure => simp [intOf]; omega
        · have z2 : decide (y ≤ 5000) = false := decide_eq_false hk
          go_wp2_with fail
          go_meet
          exact ⟨y, rfl, hy1, hy2, rfl⟩
      · have z1 : decide ((j : Int) < (any.length : Int)) = false := decide_eq_false (by omega)
        go_wp2_with fail
        go_meet
        exact ⟨y, rfl, hy1, hy2, rfl⟩
  case rest =>
    obtain ⟨y, rfl, hy1, hy2, rfl⟩ := hcut
    have HY := Lib.hid HB.out
    go_wp2_with fail
    go_loopw [1, 8] (fun u i wr => ∃ (j : Nat) (y : Int), i = .int .i64 j ∧ u = .int .i64 y ∧ j ≤ kids.length ∧ 0 ≤ y ∧ y ≤ 25005 ∧ Below w.heap.size w wr ∧ Bk wr w.heap.size 25 #[.int .i64 k, .string a, .string v, .string g, .slice qA any.length qc, .string l, .slice rA kids.length rc]) (fun _ i _ => kids.length - (intOf i).toNat)
    case atStart => exact ⟨0, y, rfl, rfl, Nat.zero_le _, hy1, hy2, HY.out, HBX.out⟩
    case round =>
      obtain ⟨j, z, rfl, rfl, hj, hz1, hz2, hbw, hbk⟩ := hrel
      have q6 : wr.cell? ⟨w.heap.size, 6, none⟩ = some (.slice rA kids.length rc) := hbk.cell 6
      have hlt1 := hbk.lt
      have HBW := Lib.hid hbw
      have HBK := Lib.hid hbk
      by_cases hlt : j < kids.length
      · have z1 : decide ((j : Int) < (kids.length : Int)) = true := decide_eq_true (by omega)
        by_cases hk : z ≤ 5000
        · have z2 : decide (z ≤ 5000) = true := decide_eq_true hk
          obtain ⟨b, o, c, rfl, hS, hc1, hcl, hfk⟩ := HK.out.get j kids[j] (List.getElem?_eq_getElem hlt)
          rw [Nat.zero_add] at hcl
          obtain ⟨y0, y1, y2, y3, y5, yA, yn, yc, zA, zn, zc, rfl⟩ := flAt_form hfk
          have hbl : b < w.heap.size := hS.2
          have hcw : ∀ o', wr.cell? ⟨b, o', none⟩ = w.cell? ⟨b, o', none⟩ := fun o' => hbw.cell (p := ⟨b, o', none⟩) hbl
          have q0 : wr.cell? ⟨b, o + j * 7, none⟩ = some (.int .i64 y0) := (hcw _).trans (hcl 0 _ rfl)
          have q1 : wr.cell? ⟨b, o + j * 7 + 1, none⟩ = some (.string y1) := (hcw _).trans (hcl 1 _ rfl)
          have q2 : wr.cell? ⟨b, o + j * 7 + 2, none⟩ = some (.string y2) := (hcw _).trans (hcl 2 _ rfl)
          have q3 : wr.cell? ⟨b, o + j * 7 + 3, none⟩ = some (.string y3) := (hcw _).trans (hcl 3 _ rfl)
          have q4 : wr.cell? ⟨b, o + j * 7 + 4, none⟩ = some (.slice yA yn yc) := (hcw _).trans (hcl 4 _ rfl)
          have q5 : wr.cell? ⟨b, o + j * 7 + 5, none⟩ = some (.string y5) := (hcw _).trans (hcl 5 _ rfl)
          have q6' : wr.cell? ⟨b, o + j * 7 + 6, none⟩ = some (.slice zA zn zc) := (hcw _).trans (hcl 6 _ rfl)
          have HC := Lib.hid (IH.out kids[j] (List.getElem_mem hlt) _ S z (d + 1) wr (FlAt.keep (T := S) hbw.size (fun x _ hlt => hbw.block x hlt) (fun _ h _ => h) _ _ hfk) ⟨hz1, hk⟩ ⟨by omega, by omega⟩)
          have hbr : b < wr.heap.size := Nat.lt_of_lt_of_le hbl hbw.size
          clear hS hc1 hcl hfk hcw hbw hbk
          go_wp2_with (go_at_call 35; refine HC.out.mono ?_; rintro e w2 ⟨hb2, z2, rfl, hz3, hz4⟩; have hbw2 := HBW.out.trans (hb2.mono HBW.out.size); have hbk2 := bk_below HBK.out hb2)
          go_roundw
          case rel => exact ⟨j + 1, z2, by go_num, by go_num, by omega, hz3, hz4, hbw2, hbk2⟩
          case measure => simp [intOf]; omega
        · have z2 : decide (z ≤ 5000) = false := decide_eq_false hk
          clear hbw hbk
          go_wp2_with fail
          go_ret
          exact ⟨HBW.out, z, rfl, hz1, hz2⟩
      · have z1 : decide ((j : Int) < (kids.length : Int)) = false := decide_eq_false (by omega)
        clear hbw hbk
        go_wp2_with fail
        go_ret
        exact ⟨HBW.out, z, rfl, hz1, hz2⟩
mutual
theorem fweigh_any : ∀ (f : Fl) (c : List Value) (S : Nat → Prop) (n d : Int) (w : World), FlAt w S f c → 0 ≤ n ∧ n ≤ 5000 → 0 ≤ d ∧ d ≤ 61 → Calls Tryd.prog 35 #[.agg c.toArray, .int .i64 n, .int .i64 d] w (FwPost w)
  | .mk k a v g any l kids, c, S, n, d, w, h, hn, hd => fweigh_one _ c S n d w h hn hd fun k' a' v' g' any' l' kids' e => by
    have h7 : kids = kids' := by injection e
    have ih := fweighs_any kids
    rw [← h7]
    exact ih
theorem fweighs_any : ∀ (ks : List Fl), ∀ y ∈ ks, ∀ (c : List Value) (S : Nat → Prop) (n d : Int) (w : World), FlAt w S y c → 0 ≤ n ∧ n ≤ 5000 → 0 ≤ d ∧ d ≤ 61 → Calls Tryd.prog 35 #[.agg c.toArray, .int .i64 n, .int .i64 d] w (FwPost w)
  | [], y, hy, _, _, _, _, _, _, _, _ => by cases hy
  | k :: ks, y, hy, c, S, n, d, w, h, hn, hd => by
    have h1 := fweigh_any k
    have h2 := fweighs_any ks
    rcases List.mem_cons.1 hy with rfl | hy
    · exact h1 c S n d w h hn hd
    · exact h2 y hy c S n d w h hn hd
end
/-- Long tells something. -/
def SomeB (w : World) (e : Ending) (w' : World) : Prop := Below w.heap.size w w' ∧ ∃ q : Bool, e = .returned (.bool q)
set_option maxHeartbeats 1000000 in
theorem long_any (f : Fl) (c : List Value) (S : Nat → Prop) (w : World) (h : FlAt w S f c) : Calls Tryd.prog 15 #[.agg c.toArray] w (SomeB w) := by
  obtain ⟨y0, y1, y2, y3, y5, yA, yn, yc, zA, zn, zc, rfl⟩ := flAt_form h
  have hb := (Below.refl w.heap.size w).alloc (Nat.le_refl _) (.cells #[.int .i64 y0, .string y1, .string y2, .string y3, .slice yA yn yc, .string y5, .slice zA zn zc] 25)
  have HB := Lib.hid hb
  have HC := Lib.hid (fweigh_any f _ S 0 1 _ (FlAt.keep (T := S) hb.size (fun x _ hlt => hb.block x hlt) (fun _ h _ => h) _ _ h) (by omega) (by omega))
  clear h hb
  go_enter Tryd.func15, Tryd.ntmps15
  go_wp2_with fail
  (go_at_call 35)
  refine HC.out.mono ?_
  rintro e w2 ⟨hb2, z, rfl, hz1, hz2⟩
  have HB2 := Lib.hid (HB.out.trans (hb2.mono HB.out.size))
  clear hb2
  go_wp2_with fail
  go_ret
  exact ⟨HB2.out, _, rfl⟩
-- GEN
theorem SRow.keep9 {w w' : World} {S : Nat → Prop} {q : Rw} {ss : List ByteArray} (h : SRow w S q ss) (hb : Below w.heap.size w w') : SRow w'.drew S q ss :=
  RowOf.keep strAt_stable h hb.size (fun b _ hlt => hb.block b hlt) (fun _ h _ => h)
def Ms.small (M : Ms) : Prop := M.attrs.length ≤ 40000 ∧ M.dest.length ≤ 40000 ∧ (M.list.length ≤ 40000 ∧ ∀ a ∈ M.list, a.2.length ≤ 40000) ∧ (M.mods.length ≤ 40000 ∧ ∀ a ∈ M.mods, a.2.2.length ≤ 40000) ∧ M.controls.length ≤ 40000
def WgPost (M : Ms) (w : World) (e : Ending) (w' : World) : Prop := Below w.heap.size w w' ∧ ∃ k : Int, e = .returned (.int .i64 k) ∧ (k ≤ 40000 → M.small)
theorem all_take {α : Type} {P : α → Prop} {l : List α} {j : Nat} {x : α} (h : ∀ a ∈ l.take j, P a) (hx : l[j]? = some x) (hp : P x) : ∀ a ∈ l.take (j + 1), P a := by
  rw [List.take_add_one, hx]
  intro a ha
  rcases List.mem_append.1 ha with ha | ha
  · exact h a ha
  · obtain rfl : a = x := by simpa using ha
    exact hp
set_option maxHeartbeats 8000000 in
theorem weighM_any (M : Ms) (m : MC) (S : Nat → Prop) (w : World) (h : MsAt w S M m) : Calls Tryd.prog 7 #[.agg m.cells] w (WgPost M w) := by
  have HS := Lib.hid size_msg
  obtain ⟨f, at', li, mo, de, co, hm, ⟨hf1, hf2, hf3, hf4, hf5, hf6⟩, hfl, hat, hli, hmo, hde, hco⟩ := h
  obtain ⟨cs, hcs⟩ : ∃ cs, cs = m.cells := ⟨_, rfl⟩
  have c3 : cs[3]? = some (.string M.name) := by rw [hcs, hm]; rfl
  have c5 : cs[5]? = some (.string M.secret) := by rw [hcs, hm]; rfl
  have c6 : cs[6]? = some (.string M.kind) := by rw [hcs, hm]; rfl
  have c8 : cs[8]? = some (.string M.value) := by rw [hcs, hm]; rfl
  have c10 : cs[10]? = some (.string M.text) := by rw [hcs, hm]; rfl
  have c26 : cs[26]? = some (.string M.rdn) := by rw [hcs, hm]; rfl
  have c23 : cs[23]? = some (.slice at'.A at'.n at'.c) := by rw [hcs, hm]; rfl
  have c28 : cs[28]? = some (.slice de.A de.n de.c) := by rw [hcs, hm]; rfl
  have c24 : cs[24]? = some (.slice li.A li.n li.c) := by rw [hcs, hm]; rfl
  have c25 : cs[25]? = some (.slice mo.A mo.n mo.c) := by rw [hcs, hm]; rfl
  have c30 : cs[30]? = some (.slice co.A co.n co.c) := by rw [hcs, hm]; rfl
  have c16 : cs[16]? = some (.int .i64 f.kind) := by rw [hcs, hm]; rfl
  have c17 : cs[17]? = some (.string f.attr) := by rw [hcs, hm]; rfl
  have c18 : cs[18]? = some (.string f.value) := by rw [hcs, hm]; rfl
  have c19 : cs[19]? = some (.string f.first) := by rw [hcs, hm]; rfl
  have c20 : cs[20]? = some (.slice f.any.A f.any.n f.any.c) := by rw [hcs, hm]; rfl
  have c21 : cs[21]? = some (.string f.last) := by rw [hcs, hm]; rfl
  have c22 : cs[22]? = some (.slice f.kids.A f.kids.n f.kids.c) := by rw [hcs, hm]; rfl
  rw [← hcs]
  clear hcs hm
  have hb := (Below.refl w.heap.size w).alloc (Nat.le_refl _) (.cells cs 30)
  have hbk := Bk.new w 30 cs
  have p3 : (w.alloc (.cells cs 30)).cell? ⟨w.heap.size, 3, none⟩ = some (.string _) := (hbk.cell 3).trans c3
  have p5 : (w.alloc (.cells cs 30)).cell? ⟨w.heap.size, 5, none⟩ = some (.string _) := (hbk.cell 5).trans c5
  have p6 : (w.alloc (.cells cs 30)).cell? ⟨w.heap.size, 6, none⟩ = some (.string _) := (hbk.cell 6).trans c6
  have p8 : (w.alloc (.cells cs 30)).cell? ⟨w.heap.size, 8, none⟩ = some (.string _) := (hbk.cell 8).trans c8
  have p10 : (w.alloc (.cells cs 30)).cell? ⟨w.heap.size, 10, none⟩ = some (.string _) := (hbk.cell 10).trans c10
  have p26 : (w.alloc (.cells cs 30)).cell? ⟨w.heap.size, 26, none⟩ = some (.string _) := (hbk.cell 26).trans c26
  obtain ⟨x1, hx1, hx1a, hx1b⟩ := min_to M.name hf1
  obtain ⟨x2, hx2, hx2a, hx2b⟩ := min_to M.secret hf2
  obtain ⟨x3, hx3, hx3a, hx3b⟩ := min_to M.kind hf3
  obtain ⟨x4, hx4, hx4a, hx4b⟩ := min_to M.value hf4
  obtain ⟨x5, hx5, hx5a, hx5b⟩ := min_to M.text hf5
  obtain ⟨x6, hx6, hx6a, hx6b⟩ := min_to M.rdn hf6
  have HB := Lib.hid hb
  have HBK := Lib.hid hbk
  clear hb hbk
  go_enter Tryd.func7, Tryd.ntmps7
  go_upto_block 0 with (fail)
  go_cut [3, 4] from 38 to 58 (fun v _ wx => ∃ y : Int, v = .int .i64 y ∧ 0 ≤ y ∧ y ≤ 240006 ∧ (y ≤ 40000 → M.attrs.length ≤ 40000) ∧ Below w.heap.size w wx ∧ Bk wx w.heap.size 30 cs)
  case first =>
    obtain ⟨⟨A, nn, cap⟩, hv⟩ : ∃ r, r = at' := ⟨_, rfl⟩
    rw [← hv] at hat c23
    obtain ⟨r1, r2, r3, r4⟩ := hat
    simp only at r1 r2 r3 r4 c23
    subst r1
    have H4 := Lib.hid r4
    have hcm : cap ≤ 9223372036854775807 := by unfold maxLen at r3; omega
    clear r4 r3
    have p23 := (HBK.out.cell 23).trans c23
    have hlt1 := HBK.out.lt
    go_wp2_with fail
    go_loopw [3, 4] (fun u i wr => ∃ (j : Nat) (y : Int), i = .int .i64 j ∧ u = .int .i64 y ∧ j ≤ M.attrs.length ∧ 0 ≤ y ∧ y ≤ 240006 ∧ (j : Int) ≤ y ∧ Below w.heap.size w wr ∧ Bk wr w.heap.size 30 cs) (fun _ i _ => M.attrs.length - (intOf i).toNat)
    case atStart => exact ⟨0, x1 + x2 + x3 + x4 + x5 + x6, rfl, by go_num, Nat.zero_le _, by omega, by omega, by omega, HB.out, HBK.out⟩
    case round =>
      obtain ⟨j, y, rfl, rfl, hj, hy1, hy2, hy3, hbw, hbk⟩ := hrel
      have HBW := Lib.hid hbw
      have HBK9 := Lib.hid hbk
      skip
      have q0 := (hbk.cell 23).trans c23
      have hltw := hbk.lt
      by_cases hlt : j < M.attrs.length
      · have z1 : decide ((j : Int) < (M.attrs.length : Int)) = true := decide_eq_true (by omega)
        by_cases hk : y ≤ 40000
        · have z2 : decide (y ≤ 40000) = true := decide_eq_true hk
          obtain ⟨b, o, c, rfl, hS, hcl, hc, hat9⟩ := H4.out j M.attrs[j] (List.getElem?_eq_getElem hlt)
          have hbl : b < wr.heap.size := Nat.lt_of_lt_of_le hS.2 hbw.size
          have hcw : ∀ o', wr.cell? ⟨b, o', none⟩ = w.cell? ⟨b, o', none⟩ := fun o' => hbw.cell (p := ⟨b, o', none⟩) hS.2
          have hgt : M.attrs[j]? = some M.attrs[j] := List.getElem?_eq_getElem hlt
          obtain ⟨s, hs⟩ : ∃ s, s = M.attrs[j] := ⟨_, rfl⟩
          rw [← hs] at hat9 hgt
          obtain ⟨rfl, hsz⟩ := hat9
          have q1 : wr.cell? ⟨b, o + j, none⟩ = some (.string s) := by have := hc 0 _ rfl; rw [Nat.mul_one, Nat.add_zero] at this; exact (hcw _).trans this
          obtain ⟨x, hx, hxa, hxb⟩ := min_to s hsz
          clear hc hS hs hcl hcw hbw hbk
          go_wp2_with fail
          go_roundw
          case rel => exact ⟨j + 1, y + 1 + x, by go_num, by go_num, by omega, by omega, by omega, by omega, HBW.out, HBK9.out⟩
          case measure => simp [intOf]; omega
        · have z2 : decide (y ≤ 40000) = false := decide_eq_false hk
          clear hbw hbk
          go_wp2_with fail
          go_meet
          exact ⟨y, rfl, hy1, hy2, fun hh => by omega, HBW.out, HBK9.out⟩
      · have z1 : decide ((j : Int) < (M.attrs.length : Int)) = false := decide_eq_false (by omega)
        clear hbw hbk
        go_wp2_with fail
        go_meet
        exact ⟨y, rfl, hy1, hy2, fun hh => by omega, HBW.out, HBK9.out⟩
  case rest =>
  obtain ⟨y1, rfl, hy1a, hy1b, hy1c, hb1, hbk1⟩ := hcut
  have HC1 := Lib.hid hy1c
  have HB1 := Lib.hid hb1
  have HBK1 := Lib.hid hbk1
  clear hb1 hbk1 hy1c
  rename_i v1
  go_upto_block 2 with (fail)
  go_cut [3, 5] from 59 to 79 (fun v _ wx => ∃ y : Int, v = .int .i64 y ∧ y1 ≤ y ∧ y ≤ 240006 ∧ (y ≤ 40000 → M.dest.length ≤ 40000) ∧ Below w.heap.size w wx ∧ Bk wx w.heap.size 30 cs)
  case first =>
    obtain ⟨⟨A, nn, cap⟩, hv⟩ : ∃ r, r = de := ⟨_, rfl⟩
    rw [← hv] at hde c28
    obtain ⟨r1, r2, r3, r4⟩ := hde
    simp only at r1 r2 r3 r4 c28
    subst r1
    have H4 := Lib.hid r4
    have hcm : cap ≤ 9223372036854775807 := by unfold maxLen at r3; omega
    clear r4 r3
    have p28 := (HBK1.out.cell 28).trans c28
    have hlt1 := HBK1.out.lt
    go_wp2_with fail
    go_loopw [3, 5] (fun u i wr => ∃ (j : Nat) (y : Int), i = .int .i64 j ∧ u = .int .i64 y ∧ j ≤ M.dest.length ∧ y1 ≤ y ∧ y ≤ 240006 ∧ (j : Int) ≤ y ∧ Below w.heap.size w wr ∧ Bk wr w.heap.size 30 cs) (fun _ i _ => M.dest.length - (intOf i).toNat)
    case atStart => exact ⟨0, y1, rfl, by go_num, Nat.zero_le _, by omega, by omega, by omega, HB1.out, HBK1.out⟩
    case round =>
      obtain ⟨j, y, rfl, rfl, hj, hy1, hy2, hy3, hbw, hbk⟩ := hrel
      have HBW := Lib.hid hbw
      have HBK9 := Lib.hid hbk
      skip
      have q0 := (hbk.cell 28).trans c28
      have hltw := hbk.lt
      by_cases hlt : j < M.dest.length
      · have z1 : decide ((j : Int) < (M.dest.length : Int)) = true := decide_eq_true (by omega)
        by_cases hk : y ≤ 40000
        · have z2 : decide (y ≤ 40000) = true := decide_eq_true hk
          obtain ⟨b, o, c, rfl, hS, hcl, hc, hat9⟩ := H4.out j M.dest[j] (List.getElem?_eq_getElem hlt)
          have hbl : b < wr.heap.size := Nat.lt_of_lt_of_le hS.2 hbw.size
          have hcw : ∀ o', wr.cell? ⟨b, o', none⟩ = w.cell? ⟨b, o', none⟩ := fun o' => hbw.cell (p := ⟨b, o', none⟩) hS.2
          have hgt : M.dest[j]? = some M.dest[j] := List.getElem?_eq_getElem hlt
          obtain ⟨s, hs⟩ : ∃ s, s = M.dest[j] := ⟨_, rfl⟩
          rw [← hs] at hat9 hgt
          obtain ⟨rfl, hsz⟩ := hat9
          have q1 : wr.cell? ⟨b, o + j, none⟩ = some (.string s) := by have := hc 0 _ rfl; rw [Nat.mul_one, Nat.add_zero] at this; exact (hcw _).trans this
          obtain ⟨x, hx, hxa, hxb⟩ := min_to s hsz
          clear hc hS hs hcl hcw hbw hbk
          go_wp2_with fail
          go_roundw
          case rel => exact ⟨j + 1, y + 1 + x, by go_num, by go_num, by omega, by omega, by omega, by omega, HBW.out, HBK9.out⟩
          case measure => simp [intOf]; omega
        · have z2 : decide (y ≤ 40000) = false := decide_eq_false hk
          clear hbw hbk
          go_wp2_with fail
          go_meet
          exact ⟨y, rfl, hy1, hy2, fun hh => by omega, HBW.out, HBK9.out⟩
      · have z1 : decide ((j : Int) < (M.dest.length : Int)) = false := decide_eq_false (by omega)
        clear hbw hbk
        go_wp2_with fail
        go_meet
        exact ⟨y, rfl, hy1, hy2, fun hh => by omega, HBW.out, HBK9.out⟩
  case rest =>
  obtain ⟨y2, rfl, hy2a, hy2b, hy2c, hb2, hbk2⟩ := hcut
  have HC2 := Lib.hid hy2c
  have HB2 := Lib.hid hb2
  have HBK2 := Lib.hid hbk2
  clear hb2 hbk2 hy2c
  rename_i v2
  go_upto_block 4 with (fail)
  go_cut [3, 6] from 80 to 104 (fun v _ wx => ∃ y : Int, v = .int .i64 y ∧ y2 ≤ y ∧ y ≤ 240006 ∧ (y ≤ 40000 → M.list.length ≤ 40000 ∧ ∀ a ∈ M.list, a.2.length ≤ 40000) ∧ Below w.heap.size w wx ∧ Bk wx w.heap.size 30 cs)
  case first =>
    obtain ⟨⟨A, nn, cap⟩, hv⟩ : ∃ r, r = li := ⟨_, rfl⟩
    rw [← hv] at hli c24
    obtain ⟨r1, r2, r3, r4⟩ := hli
    simp only at r1 r2 r3 r4 c24
    subst r1
    have H4 := Lib.hid r4
    have hcm : cap ≤ 9223372036854775807 := by unfold maxLen at r3; omega
    clear r4 r3
    have p24 := (HBK2.out.cell 24).trans c24
    have hlt1 := HBK2.out.lt
    go_wp2_with fail
    go_loopw [3, 6] (fun u i wr => ∃ (j : Nat) (y : Int), i = .int .i64 j ∧ u = .int .i64 y ∧ j ≤ M.list.length ∧ y2 ≤ y ∧ y ≤ 240006 ∧ (j : Int) ≤ y ∧ (y ≤ 40000 → ∀ a ∈ M.list.take j, a.2.length ≤ 40000) ∧ Below w.heap.size w wr ∧ Bk wr w.heap.size 30 cs) (fun _ i _ => M.list.length - (intOf i).toNat)
    case atStart => exact ⟨0, y2, rfl, by go_num, Nat.zero_le _, by omega, by omega, by omega, by simp, HB2.out, HBK2.out⟩
    case round =>
      obtain ⟨j, y, rfl, rfl, hj, hy1, hy2, hy3, hin, hbw, hbk⟩ := hrel
      have HBW := Lib.hid hbw
      have HBK9 := Lib.hid hbk
      have HIN := Lib.hid hin
      have q0 := (hbk.cell 24).trans c24
      have hltw := hbk.lt
      by_cases hlt : j < M.list.length
      · have z1 : decide ((j : Int) < (M.list.length : Int)) = true := decide_eq_true (by omega)
        by_cases hk : y ≤ 40000
        · have z2 : decide (y ≤ 40000) = true := decide_eq_true hk
          obtain ⟨b, o, c, rfl, hS, hcl, hc, hat9⟩ := H4.out j M.list[j] (List.getElem?_eq_getElem hlt)
          have hbl : b < wr.heap.size := Nat.lt_of_lt_of_le hS.2 hbw.size
          have hcw : ∀ o', wr.cell? ⟨b, o', none⟩ = w.cell? ⟨b, o', none⟩ := fun o' => hbw.cell (p := ⟨b, o', none⟩) hS.2
          have hgt : M.list[j]? = some M.list[j] := List.getElem?_eq_getElem hlt
          obtain ⟨s, hs⟩ : ∃ s, s = M.list[j] := ⟨_, rfl⟩
          rw [← hs] at hat9 hgt
          obtain ⟨q, rfl, hsz, hss⟩ := hat9
          have q1 : wr.cell? ⟨b, o + j * 2, none⟩ = some (.string s.1) := (hcw _).trans (hc 0 _ rfl)
          have q2 : wr.cell? ⟨b, o + j * 2 + 1, none⟩ = some (.slice q.A q.n q.c) := (hcw _).trans (hc 1 _ rfl)
          have HV := Lib.hid (values_any s.1 q s.2 y S wr.drew (SRow.keep9 hss hbw) hsz (by omega) hk)
          have HBD := Lib.hid HBW.out.drew
          clear hc hS hs hcl hcw hbw hbk hss
          go_wp2_with fail
          go_region_held3 (fun W => W.cell? ⟨w.heap.size, 24, none⟩ = some (.slice (some ⟨b, o, none⟩) M.list.length cap) ∧ W.cell? ⟨b, o + j * 2, none⟩ = some (.string s.1) ∧ W.cell? ⟨b, o + j * 2 + 1, none⟩ = some (.slice q.A q.n q.c)) (exact ⟨q0, q1, q2⟩)
            (first
              | (go_at_call 14; refine HV.out.mono ?_; rintro e w9 ⟨rfl, x, rfl, hx1', hx2', hx3'⟩)
              | fail)
          all_goals
            go_wp2_with fail
            go_roundw
            case rel => exact ⟨j + 1, x, by go_num, by go_num, by omega, by omega, by omega, by omega, fun hle => all_take (HIN.out (by omega)) hgt (hx3' hle), HBD.out, HBK9.out⟩
            case measure => simp [intOf]; omega
        · have z2 : decide (y ≤ 40000) = false := decide_eq_false hk
          clear hbw hbk
          go_wp2_with fail
          go_meet
          exact ⟨y, rfl, hy1, hy2, fun hh => by omega, HBW.out, HBK9.out⟩
      · have z1 : decide ((j : Int) < (M.list.length : Int)) = false := decide_eq_false (by omega)
        clear hbw hbk
        go_wp2_with fail
        go_meet
        exact ⟨y, rfl, hy1, hy2, fun hh => ⟨by omega, by have hl := HIN.out hh; rw [List.take_of_length_le (by omega)] at hl; exact hl⟩, HBW.out, HBK9.out⟩
  case rest =>
  obtain ⟨y3, rfl, hy3a, hy3b, hy3c, hb3, hbk3⟩ := hcut
  have HC3 := Lib.hid hy3c
  have HB3 := Lib.hid hb3
  have HBK3 := Lib.hid hbk3
  clear hb3 hbk3 hy3c
  rename_i v3
  go_upto_block 6 with (fail)
  go_cut [3, 7] from 105 to 129 (fun v _ wx => ∃ y : Int, v = .int .i64 y ∧ y3 ≤ y ∧ y ≤ 240006 ∧ (y ≤ 40000 → M.mods.length ≤ 40000 ∧ ∀ a ∈ M.mods, a.2.2.length ≤ 40000) ∧ Below w.heap.size w wx ∧ Bk wx w.heap.size 30 cs)
  case first =>
    obtain ⟨⟨A, nn, cap⟩, hv⟩ : ∃ r, r = mo := ⟨_, rfl⟩
    rw [← hv] at hmo c25
    obtain ⟨r1, r2, r3, r4⟩ := hmo
    simp only at r1 r2 r3 r4 c25
    subst r1
    have H4 := Lib.hid r4
    have hcm : cap ≤ 9223372036854775807 := by unfold maxLen at r3; omega
    clear r4 r3
    have p25 := (HBK3.out.cell 25).trans c25
    have hlt1 := HBK3.out.lt
    go_wp2_with fail
    go_loopw [3, 7] (fun u i wr => ∃ (j : Nat) (y : Int), i = .int .i64 j ∧ u = .int .i64 y ∧ j ≤ M.mods.length ∧ y3 ≤ y ∧ y ≤ 240006 ∧ (j : Int) ≤ y ∧ (y ≤ 40000 → ∀ a ∈ M.mods.take j, a.2.2.length ≤ 40000) ∧ Below w.heap.size w wr ∧ Bk wr w.heap.size 30 cs) (fun _ i _ => M.mods.length - (intOf i).toNat)
    case atStart => exact ⟨0, y3, rfl, by go_num, Nat.zero_le _, by omega, by omega, by omega, by simp, HB3.out, HBK3.out⟩
    case round =>
      obtain ⟨j, y, rfl, rfl, hj, hy1, hy2, hy3, hin, hbw, hbk⟩ := hrel
      have HBW := Lib.hid hbw
      have HBK9 := Lib.hid hbk
      have HIN := Lib.hid hin
      have q0 := (hbk.cell 25).trans c25
      have hltw := hbk.lt
      by_cases hlt : j < M.mods.length
      · have z1 : decide ((j : Int) < (M.mods.length : Int)) = true := decide_eq_true (by omega)
        by_cases hk : y ≤ 40000
        · have z2 : decide (y ≤ 40000) = true := decide_eq_true hk
          obtain ⟨b, o, c, rfl, hS, hcl, hc, hat9⟩ := H4.out j M.mods[j] (List.getElem?_eq_getElem hlt)
          have hbl : b < wr.heap.size := Nat.lt_of_lt_of_le hS.2 hbw.size
          have hcw : ∀ o', wr.cell? ⟨b, o', none⟩ = w.cell? ⟨b, o', none⟩ := fun o' => hbw.cell (p := ⟨b, o', none⟩) hS.2
          have hgt : M.mods[j]? = some M.mods[j] := List.getElem?_eq_getElem hlt
          obtain ⟨s, hs⟩ : ∃ s, s = M.mods[j] := ⟨_, rfl⟩
          rw [← hs] at hat9 hgt
          obtain ⟨q, rfl, ⟨-, hsz⟩, hss⟩ := hat9
          have q1 : wr.cell? ⟨b, o + j * 3 + 1, none⟩ = some (.string s.2.1) := (hcw _).trans (hc 1 _ rfl)
          have q2 : wr.cell? ⟨b, o + j * 3 + 2, none⟩ = some (.slice q.A q.n q.c) := (hcw _).trans (hc 2 _ rfl)
          have HV := Lib.hid (values_any s.2.1 q s.2.2 y S wr.drew (SRow.keep9 hss hbw) hsz (by omega) hk)
          have HBD := Lib.hid HBW.out.drew
          clear hc hS hs hcl hcw hbw hbk hss
          go_wp2_with fail
          go_region_held3 (fun W => W.cell? ⟨w.heap.size, 25, none⟩ = some (.slice (some ⟨b, o, none⟩) M.mods.length cap) ∧ W.cell? ⟨b, o + j * 3 + 1, none⟩ = some (.string s.2.1) ∧ W.cell? ⟨b, o + j * 3 + 2, none⟩ = some (.slice q.A q.n q.c)) (exact ⟨q0, q1, q2⟩)
            (first
              | (go_at_call 14; refine HV.out.mono ?_; rintro e w9 ⟨rfl, x, rfl, hx1', hx2', hx3'⟩)
              | fail)
          all_goals
            go_wp2_with fail
            go_roundw
            case rel => exact ⟨j + 1, x, by go_num, by go_num, by omega, by omega, by omega, by omega, fun hle => all_take (HIN.out (by omega)) hgt (hx3' hle), HBD.out, HBK9.out⟩
            case measure => simp [intOf]; omega
        · have z2 : decide (y ≤ 40000) = false := decide_eq_false hk
          clear hbw hbk
          go_wp2_with fail
          go_meet
          exact ⟨y, rfl, hy1, hy2, fun hh => by omega, HBW.out, HBK9.out⟩
      · have z1 : decide ((j : Int) < (M.mods.length : Int)) = false := decide_eq_false (by omega)
        clear hbw hbk
        go_wp2_with fail
        go_meet
        exact ⟨y, rfl, hy1, hy2, fun hh => ⟨by omega, by have hl := HIN.out hh; rw [List.take_of_length_le (by omega)] at hl; exact hl⟩, HBW.out, HBK9.out⟩
  case rest =>
  obtain ⟨y4, rfl, hy4a, hy4b, hy4c, hb4, hbk4⟩ := hcut
  have HC4 := Lib.hid hy4c
  have HB4 := Lib.hid hb4
  have HBK4 := Lib.hid hbk4
  clear hb4 hbk4 hy4c
  rename_i v4
  go_upto_block 8 with (fail)
  go_cut [3, 8] from 130 to 160 (fun v _ wx => ∃ y : Int, v = .int .i64 y ∧ y4 ≤ y ∧ y ≤ 240006 ∧ (y ≤ 40000 → M.controls.length ≤ 40000) ∧ Below w.heap.size w wx ∧ Bk wx w.heap.size 30 cs)
  case first =>
    obtain ⟨⟨A, nn, cap⟩, hv⟩ : ∃ r, r = co := ⟨_, rfl⟩
    rw [← hv] at hco c30
    obtain ⟨r1, r2, r3, r4⟩ := hco
    simp only at r1 r2 r3 r4 c30
    subst r1
    have H4 := Lib.hid r4
    have hcm : cap ≤ 9223372036854775807 := by unfold maxLen at r3; omega
    clear r4 r3
    have p30 := (HBK4.out.cell 30).trans c30
    have hlt1 := HBK4.out.lt
    go_wp2_with fail
    go_loopw [3, 8] (fun u i wr => ∃ (j : Nat) (y : Int), i = .int .i64 j ∧ u = .int .i64 y ∧ j ≤ M.controls.length ∧ y4 ≤ y ∧ y ≤ 240006 ∧ (j : Int) ≤ y ∧ Below w.heap.size w wr ∧ Bk wr w.heap.size 30 cs) (fun _ i _ => M.controls.length - (intOf i).toNat)
    case atStart => exact ⟨0, y4, rfl, by go_num, Nat.zero_le _, by omega, by omega, by omega, HB4.out, HBK4.out⟩
    case round =>
      obtain ⟨j, y, rfl, rfl, hj, hy1, hy2, hy3, hbw, hbk⟩ := hrel
      have HBW := Lib.hid hbw
      have HBK9 := Lib.hid hbk
      skip
      have q0 := (hbk.cell 30).trans c30
      have hltw := hbk.lt
      by_cases hlt : j < M.controls.length
      · have z1 : decide ((j : Int) < (M.controls.length : Int)) = true := decide_eq_true (by omega)
        by_cases hk : y ≤ 40000
        · have z2 : decide (y ≤ 40000) = true := decide_eq_true hk
          obtain ⟨b, o, c, rfl, hS, hcl, hc, hat9⟩ := H4.out j M.controls[j] (List.getElem?_eq_getElem hlt)
          have hbl : b < wr.heap.size := Nat.lt_of_lt_of_le hS.2 hbw.size
          have hcw : ∀ o', wr.cell? ⟨b, o', none⟩ = w.cell? ⟨b, o', none⟩ := fun o' => hbw.cell (p := ⟨b, o', none⟩) hS.2
          have hgt : M.controls[j]? = some M.controls[j] := List.getElem?_eq_getElem hlt
          obtain ⟨s, hs⟩ : ∃ s, s = M.controls[j] := ⟨_, rfl⟩
          rw [← hs] at hat9 hgt
          obtain ⟨rfl, hsz, hsz2⟩ := hat9
          have q1 : wr.cell? ⟨b, o + j * 4, none⟩ = some (.string s.1) := (hcw _).trans (hc 0 _ rfl)
          have q2 : wr.cell? ⟨b, o + j * 4 + 3, none⟩ = some (.string s.2.2.2) := (hcw _).trans (hc 3 _ rfl)
          obtain ⟨x, hx, hxa, hxb⟩ := min_to s.1 hsz
          obtain ⟨x9, hx9, hx9a, hx9b⟩ := min_to s.2.2.2 hsz2
          have hw : IntKind.i64.wrap (IntKind.i64.wrap (IntKind.i64.wrap (y + 1) + x) + x9) = y + 1 + x + x9 := by rw [IntWalk.i64_in (y + 1) (by omega), IntWalk.i64_in (y + 1 + x) (by omega), IntWalk.i64_in _ (by omega)]
          have HBD := Lib.hid HBW.out.drew
          clear hc hS hs hcl hcw hbw hbk
          go_wp2_with fail
          go_region_held3 (fun W => W.cell? ⟨w.heap.size, 30, none⟩ = some (.slice (some ⟨b, o, none⟩) M.controls.length cap) ∧ W.cell? ⟨b, o + j * 4, none⟩ = some (.string s.1) ∧ W.cell? ⟨b, o + j * 4 + 3, none⟩ = some (.string s.2.2.2)) (exact ⟨q0, q1, q2⟩) (fail)
          all_goals
            go_wp2_with fail
            go_roundw
            case rel => exact ⟨j + 1, y + 1 + x + x9, by go_num, by first | rfl | exact congrArg (Value.int .i64) hw, by omega, by omega, by omega, by omega, HBD.out, HBK9.out⟩
            case measure => simp [intOf]; omega
        · have z2 : decide (y ≤ 40000) = false := decide_eq_false hk
          clear hbw hbk
          go_wp2_with fail
          go_meet
          exact ⟨y, rfl, hy1, hy2, fun hh => by omega, HBW.out, HBK9.out⟩
      · have z1 : decide ((j : Int) < (M.controls.length : Int)) = false := decide_eq_false (by omega)
        clear hbw hbk
        go_wp2_with fail
        go_meet
        exact ⟨y, rfl, hy1, hy2, fun hh => by omega, HBW.out, HBK9.out⟩
  case rest =>
  obtain ⟨y5, rfl, hy5a, hy5b, hy5c, hb5, hbk5⟩ := hcut
  have HC5 := Lib.hid hy5c
  have HB5 := Lib.hid hb5
  have HBK5 := Lib.hid hbk5
  clear hb5 hbk5 hy5c
  rename_i v5
  have e16 := (HBK5.out.cell 16).trans c16
  have e17 := (HBK5.out.cell 17).trans c17
  have e18 := (HBK5.out.cell 18).trans c18
  have e19 := (HBK5.out.cell 19).trans c19
  have e20 := (HBK5.out.cell 20).trans c20
  have e21 := (HBK5.out.cell 21).trans c21
  have e22 := (HBK5.out.cell 22).trans c22
  have hlt5 := HBK5.out.lt
  have HL := Lib.hid (long_any M.filter _ S _ (FlAt.keep (T := S) HB5.out.size (fun x _ hlt => HB5.out.block x hlt) (fun _ h _ => h) _ _ hfl))
  clear hfl
  go_wp2_with fail
  (go_at_call 15)
  refine HL.out.mono ?_
  rintro e w6 ⟨hb6, q, rfl⟩
  have HB6 := Lib.hid (HB5.out.trans (hb6.mono HB5.out.size))
  clear hb6
  cases q with
  | true =>
    go_wp2_with fail
    go_ret
    exact ⟨HB6.out, _, rfl, fun hh => by omega⟩
  | false =>
    go_wp2_with fail
    go_ret
    exact ⟨HB6.out, _, rfl, fun hh => ⟨HC1.out (by omega), HC2.out (by omega), HC3.out (by omega), HC4.out (by omega), HC5.out (by omega)⟩⟩
end Go.Proofs.YtbiglfpikfjbpaaDoor
/- The writer: an operation's value, whatever the operation. -/
namespace Go.Proofs.YtbiglfpikfjbpaaDoor
open Go.RowKit
set_option maxRecDepth 100000
set_option linter.unusedVariables false
set_option linter.unusedSimpArgs false
theorem inB_in {n lo hi : Int} (h : inB n lo hi = true) : lo ≤ n ∧ n ≤ hi := by simpa [inB] using h
theorem inB_64 {n lo hi : Int} (h : inB n lo hi = true) (h1 : -9223372036854775808 ≤ lo) (h2 : hi ≤ 9223372036854775807) : in64 n := by
  have := inB_in h
  exact ⟨by omega, by omega⟩
/-- The operations that there are. -/
theorem Ms.ops (M : Ms) (h : M.ranged = true) : M.op = 0 ∨ M.op = 3 ∨ M.op = 4 ∨ M.op = 8 ∨ M.op = 6 ∨ M.op = 12 ∨ M.op = 14 ∨ M.op = 23 ∨ M.op = 2 ∨ M.op = 10 ∨ M.op = 16 ∨
    (isAnsB M.op = true ∧ inB M.code 0 127 = true ∧ M.op ≠ 0 ∧ M.op ≠ 3 ∧ M.op ≠ 4 ∧ M.op ≠ 8 ∧ M.op ≠ 6 ∧ M.op ≠ 12 ∧ M.op ≠ 14 ∧ M.op ≠ 23 ∧ M.op ≠ 2 ∧ M.op ≠ 10 ∧ M.op ≠ 16) := by
  by_cases h0 : M.op = 0; · exact .inl h0
  by_cases h3 : M.op = 3; · simp [h3]
  by_cases h4 : M.op = 4; · simp [h4]
  by_cases h8 : M.op = 8; · simp [h8]
  by_cases h6 : M.op = 6; · simp [h6]
  by_cases h12 : M.op = 12; · simp [h12]
  by_cases h14 : M.op = 14; · simp [h14]
  by_cases h23 : M.op = 23; · simp [h23]
  by_cases h2 : M.op = 2; · simp [h2]
  by_cases h10 : M.op = 10; · simp [h10]
  by_cases h16 : M.op = 16; · simp [h16]
  unfold Ms.ranged at h
  rw [if_neg h0, if_neg h3, if_neg h6, if_neg h12, if_neg h16, if_neg h23, if_neg (by simp [h2, h4, h8, h10, h14])] at h
  simp only [Bool.and_eq_true] at h
  simp [h0, h3, h4, h8, h6, h12, h14, h23, h2, h10, h16, h.1, h.2]
theorem ans_wf {op : Int} (h : isAnsB op = true) : (Lit.int .i64 op).wf = true := by
  simp [isAnsB] at h
  rcases h with rfl | rfl | rfl | rfl | rfl | rfl | rfl | rfl <;> rfl
theorem parts_do (M : Ms) (m : MC) (S : Nat → Prop) (w : World) (h : MsAt w S M m) (hr : M.ranged = true) (hs : M.small) (h2 : M.op ≠ 2) (h10 : M.op ≠ 10) (h16 : M.op ≠ 16) :
    Calls Tryd.prog 40 #[.agg m.cells] w (OfPost M.partsT w) := by
  obtain ⟨s1, s2, ⟨s3, s4⟩, ⟨s5, s6⟩, s7⟩ := hs
  have hr' := hr
  unfold Ms.ranged at hr
  unfold Ms.partsT
  rcases M.ops hr' with h | h | h | h | h | h | h | h | h | h | h | ⟨ha, hc, k0, k3, k4, k8, k6, k12, k14, k23, -, -, -⟩
  · rw [if_pos h] at hr ⊢
    simp only [Bool.and_eq_true] at hr
    exact partsw_0 M m S w (by assumption) h (inB_64 hr.1 (by omega) (by omega))
  · rw [if_neg (by omega), if_pos h] at hr ⊢
    simp only [Bool.and_eq_true] at hr
    obtain ⟨r1, r2, r3, r4, r5⟩ := hr
    exact partsw_3 M m S w (by assumption) h (by omega) (inB_64 r1 (by omega) (by omega)) (inB_64 r2 (by omega) (by omega)) (inB_64 r3 (by omega) (by omega)) (inB_64 r4 (by omega) (by omega)) (fil_right _ r5)
  · rw [if_neg (by omega), if_neg (by omega), if_pos (by omega)]
    exact partsw_4 M m S w (by assumption) h (by omega) (fun a ha => by have := s4 a ha; omega)
  · rw [if_neg (by omega), if_neg (by omega), if_pos (by omega)]
    exact partsw_8 M m S w (by assumption) h (by omega) (fun a ha => by have := s4 a ha; omega)
  · rw [if_neg (by omega), if_neg (by omega), if_pos h] at hr
    rw [if_neg (by omega), if_neg (by omega), if_neg (by omega), if_pos h]
    exact partsw_6 M m S w (by assumption) h (by omega) (fun a ha => ⟨by have := s6 a ha; omega, inB_64 (by simpa using List.all_eq_true.1 hr a ha) (by omega) (by omega)⟩)
  · rw [if_neg (by omega), if_neg (by omega), if_neg (by omega), if_neg (by omega), if_pos h]
    exact partsw_12 M m S w (by assumption) h (by omega)
  · rw [if_neg (by omega), if_neg (by omega), if_neg (by omega), if_neg (by omega), if_neg (by omega), if_pos h]
    exact partsw_14 M m S w (by assumption) h
  · rw [if_neg (by omega), if_neg (by omega), if_neg (by omega), if_neg (by omega), if_neg (by omega), if_neg (by omega), if_pos h]
    cases hh : M.has with
    | false => exact partsw_23_false M m S w (by assumption) h hh
    | true => exact partsw_23_true M m S w (by assumption) h hh
  · exact absurd h h2
  · exact absurd h h10
  · exact absurd h h16
  · rw [if_neg k0, if_neg k3, if_neg (by omega), if_neg k6, if_neg k12, if_neg k14, if_neg k23]
    by_cases hcond : M.op = 24 ∧ fullB M.kind = true
    · exact partsw_ans_yes M m S w (by assumption) k0 k3 k4 k8 k6 k12 k14 k23 (inB_64 hc (by omega) (by omega)) hcond
    · refine partsw_ans_no M m S w (by assumption) k0 k3 k4 k8 k6 k12 k14 k23 (inB_64 hc (by omega) (by omega)) ?_
      cases h1 : (M.op == 24) with
      | false => rfl
      | true =>
        cases h2 : fullB M.kind with
        | false => rfl
        | true => exact absurd ⟨by simpa using h1, h2⟩ hcond
theorem operation_any (M : Ms) (m : MC) (S : Nat → Prop) (w : World) (h : MsAt w S M m) (hr : M.ranged = true) (hs : M.small) : Calls Tryd.prog 19 #[.agg m.cells] w (RetT M.opT w) := by
  unfold Ms.opT
  by_cases h2 : M.op = 2
  · rw [if_pos h2]; exact operation_unbind M m S w h h2
  rw [if_neg h2]
  by_cases h10 : M.op = 10
  · rw [if_pos h10]; exact op_delete M m S w h h10
  rw [if_neg h10]
  by_cases h16 : M.op = 16
  · rw [if_pos h16]
    refine op_abandon M m S w h h16 ?_
    unfold Ms.ranged at hr
    rw [if_neg (by omega), if_neg (by omega), if_neg (by omega), if_neg (by omega), if_pos h16] at hr
    exact inB_64 hr (by omega) (by omega)
  rw [if_neg h16]
  refine op_parts M m S w h h2 h10 h16 ?_ (fun W hb => parts_do M m S W (h.keep hb.size (fun x _ hlt => hb.block x hlt) (fun _ h _ => h)) hr hs h2 h10 h16)
  rcases M.ops hr with h | h | h | h | h | h | h | h | h | h | h | ⟨ha, -⟩
  · rw [h]; rfl
  · rw [h]; rfl
  · rw [h]; rfl
  · rw [h]; rfl
  · rw [h]; rfl
  · rw [h]; rfl
  · rw [h]; rfl
  · rw [h]; rfl
  · rw [h]; rfl
  · rw [h]; rfl
  · rw [h]; rfl
  · exact ans_wf ha
end Go.Proofs.YtbiglfpikfjbpaaDoor
/- The writer: Encode of any message. -/
namespace Go.Proofs.YtbiglfpikfjbpaaDoor
open Go.RowKit
set_option maxRecDepth 100000
set_option linter.unusedVariables false
set_option linter.unusedSimpArgs false
/-- The value under way: its block g, its row's block sb with two values. -/
structure EncN (w wx : World) (cs : Array Value) (g sb : Nat) (t1 t2 : Tl) (xs ys : List Value) : Prop where
  below : Below w.heap.size w wx
  box : Bk wx w.heap.size 30 cs
  val : Bk wx g 38 #[.int .i64 0, .bool true, .int .i64 16, .string ⟨#[]⟩, .slice (some ⟨sb, 0, none⟩) 2 2]
  row : Bk wx sb 38 (xs ++ ys).toArray
  leaf : LeafC t1 xs
  tree : ys.length = 5 ∧ TlAt wx (fun x => x ≠ g ∧ x ≠ sb) t2 ys.toArray
  ne : sb ≠ g ∧ w.heap.size < g ∧ w.heap.size < sb
def AnyAt (w : World) (t : Tl) (c : List Value) : Prop := c.length = 5 ∧ TlAt w (fun _ => True) t c.toArray
theorem anyRow {w : World} {S : Nat → Prop} {q : Rw} {ts : List Tl} (h : RowOf 5 (fun _ _ t c => AnyAt w t c) w S q ts) : RowOf 5 TlL w (fun _ => True) q ts := by
  obtain ⟨h1, h2, h3, h4⟩ := h
  refine ⟨h1, h2, h3, fun i d hd => ?_⟩
  obtain ⟨b, o, c, q1, q2, q3, q4, q5⟩ := h4 i d hd
  exact ⟨b, o, c, q1, ⟨trivial, q2.2⟩, q3, q4, q5.2⟩
/-- A row of the call's own, whose parts are told. -/
theorem row_any {w : World} {B n cap : Nat} {A : Option Addr} {ts : List Tl} {css : List (List Value)} (hown : w.ownsRow B 38 5 (.slice A n cap) ts.length css.flatten) (hA : All2 (AnyAt w) ts css) : RowOf 5 TlL w (fun _ => True) ⟨A, n, cap⟩ ts := by
  have hG : GRow 38 5 (fun _ _ t c => AnyAt w t c) w B (.slice A n cap) ts := ⟨css, hA.len.symm, fun c hx => hA.right (P := fun c => c.length = 5) (fun _ _ h => h.1) c hx, hown, fun i t c ht hc => hA.get i t c ht hc⟩
  obtain ⟨q, e, hq⟩ := GRow.row (fun _ _ _ _ _ h => h) hG
  injection e with e1 e2 e3
  have := anyRow hq
  obtain ⟨qA, qn, qc⟩ := q
  simp only at e1 e2 e3
  subst e1 e2 e3
  exact this
theorem EncN.own {w wx : World} {cs : Array Value} {g sb : Nat} {t1 t2 : Tl} {xs ys : List Value} (h : EncN w wx cs g sb t1 t2 xs ys) : wx.ownsRow w.heap.size 38 5 (.slice (some ⟨sb, 0, none⟩) 2 2) 2 (xs ++ ys) :=
  ⟨by rw [List.length_append, h.leaf.1, h.tree.1], .inr ⟨sb, 2, (xs ++ ys).toArray, rfl, by have := h.ne.2.2; omega, h.row, Nat.le_refl _, by unfold maxLen; omega, by simp [h.leaf.1, h.tree.1], by rw [List.take_of_length_le (by simp [h.leaf.1, h.tree.1])]⟩⟩
/-- Without more: the whole. -/
theorem EncN.two {w wx : World} {cs : Array Value} {g sb : Nat} {t1 t2 : Tl} {xs ys : List Value} (h : EncN w wx cs g sb t1 t2 xs ys) : TlAt wx (fun _ => True) (tlist [t1, t2]) #[.int .i64 0, .bool true, .int .i64 16, .string ⟨#[]⟩, .slice (some ⟨sb, 0, none⟩) 2 2] :=
  kids_at 0 16 true ⟨#[]⟩ (row_any (css := [xs, ys]) (ts := [t1, t2]) (by simpa using h.own) ⟨⟨h.leaf.1, h.leaf.2 _ _⟩, ⟨h.tree.1, TlAt.keep (Nat.le_refl _) (fun _ _ _ => rfl) (fun _ _ _ => trivial) _ _ h.tree.2⟩, trivial⟩) rfl rfl (Nat.zero_le _)
/-- With the controls' value behind them. -/
theorem EncN.three {w wx w6 w7 : World} {cs : Array Value} {g sb gg cap7 : Nat} {t1 t2 t3 : Tl} {xs ys zs : List Value} {o : Obj} (h : EncN w wx cs g sb t1 t2 xs ys) (hb6 : Below wx.heap.size wx.drew w6) (hz : zs.length = 5) (ht : TlAt w6 (fun x => wx.heap.size ≤ x) t3 zs.toArray)
    (hown7 : w7.ownsRow w.heap.size 38 5 (.slice (some ⟨gg, 0, none⟩) 3 cap7) 3 ((xs ++ ys) ++ zs)) (hgr : (w6.alloc o).grownBy w7 (Value.slice (some ⟨sb, 0, none⟩) 2 2).ownBlock) (hat : (Value.slice (some ⟨sb, 0, none⟩) 2 2).ownBlock = some gg ∨ gg = w6.heap.size + 1) :
    Below w.heap.size w (w7.setCell ⟨g, 4, none⟩ (.slice (some ⟨gg, 0, none⟩) 3 cap7)) ∧ Bk (w7.setCell ⟨g, 4, none⟩ (.slice (some ⟨gg, 0, none⟩) 3 cap7)) g 38 #[.int .i64 0, .bool true, .int .i64 16, .string ⟨#[]⟩, .slice (some ⟨gg, 0, none⟩) 3 cap7] ∧
      TlAt (w7.setCell ⟨g, 4, none⟩ (.slice (some ⟨gg, 0, none⟩) 3 cap7)) (fun _ => True) (tlist [t1, t2, t3]) #[.int .i64 0, .bool true, .int .i64 16, .string ⟨#[]⟩, .slice (some ⟨gg, 0, none⟩) 3 cap7] := by
  have hb := h.below.drew.trans (hb6.mono h.below.size)
  have hg6 := bk_below h.val.drew hb6
  have hk6 := bk_below h.box.drew hb6
  obtain ⟨n1, n2, n3⟩ := h.ne
  have hN := node_push (bo := sb) hb (Nat.le_refl _) hg6 hk6 (by omega) rfl n1 (by omega) (by omega) (by omega) hown7 hgr hat
  have hs6 := hb6.size
  have hgl := h.val.lt
  have hsl := h.row.lt
  have hs6' : wx.heap.size ≤ w6.heap.size := hs6
  have hgs := hgr.size
  have hkeep : ∀ x, x ≠ g → x ≠ sb → x < w6.heap.size → (w7.setCell ⟨g, 4, none⟩ (.slice (some ⟨gg, 0, none⟩) 3 cap7)).heap[x]? = w6.heap[x]? := fun x h1 h2 h3 => by
    have e1 := Below.heap_setCell w7 ⟨g, 4, none⟩ (.slice (some ⟨gg, 0, none⟩) 3 cap7) x h1
    have e2 := hgr.block x (by simp; omega) (by simp [Value.ownBlock]; exact h2)
    have e3 := Below.heap_alloc w6 o x h3
    exact e1.trans (e2.trans e3)
  have hsz : w6.heap.size ≤ (w7.setCell ⟨g, 4, none⟩ (.slice (some ⟨gg, 0, none⟩) 3 cap7)).heap.size := by simp at hgs ⊢; omega
  have ht2 : TlAt w6 (fun x => x ≠ g ∧ x ≠ sb) t2 ys.toArray := TlAt.below (w := wx.drew) hb6 _ _ (TlAt.keep (w := wx) (w' := wx.drew) (Nat.le_refl _) (fun _ _ _ => rfl) (fun _ hx _ => hx) _ _ h.tree.2)
  refine ⟨hN.1, hN.2.1, kids_at 0 16 true ⟨#[]⟩ (row_any (css := [xs, ys, zs]) (ts := [t1, t2, t3]) (by simpa using hN.2.2.2) ⟨⟨h.leaf.1, h.leaf.2 _ _⟩, ⟨h.tree.1, ?_⟩, ⟨hz, ?_⟩, trivial⟩) rfl rfl (Nat.zero_le _)⟩
  · exact TlAt.keep hsz (fun x hx hlt => hkeep x hx.1 hx.2 hlt) (fun _ _ _ => trivial) _ _ ht2
  · exact TlAt.keep hsz (fun x hx hlt => hkeep x (by have hx : wx.heap.size ≤ x := hx; omega) (by have hx : wx.heap.size ≤ x := hx; omega) hlt) (fun _ _ _ => trivial) _ _ ht
theorem of_ctl_row (q : Rw) (ss : List Co) (S : Nat → Prop) (w : World) (h : RowOf 4 CoAt w S q ss) (hn : ss.length ≤ 1000000) :
    Calls Tryd.prog 20 #[.slice q.A q.n q.c, .func (.func 21) #[] #[]] w (OfPost (ss.map tctl) w) := by
  have := of_ctl q.A q.c ss S tctl w (by rw [← h.1]; exact h) hn (fun s hs W c _ hat => ctl_do s c S W hat)
  rw [← h.1] at this
  exact this
theorem tree_none (M : Ms) (h : M.controls = []) : M.tree = tlist [tnum 2 M.id, M.opT] := by unfold Ms.tree; rw [if_pos h]; rfl
theorem tree_some (M : Ms) (h : M.controls ≠ []) : M.tree = tlist [tnum 2 M.id, M.opT, .mk 2 true 0 ⟨#[]⟩ (M.controls.map tctl)] := by unfold Ms.tree; rw [if_neg h]; rfl
set_option maxHeartbeats 8000000 in
theorem encode_right (M : Ms) (m : MC) (S : Nat → Prop) (w : World) (h : MsAt w S M m) (ha : AnsAt w) (hr : M.right = true) (hsm : M.small) :
    Calls Tryd.prog 8 #[.agg m.cells] w (EncTop M.tree w) := by
  have HS := Lib.hid size_msg
  obtain ⟨i0, hi, iz0, iz1, iz2⟩ := info_parts info_tlv
  have hr' := hr
  unfold Ms.right at hr'
  simp only [Bool.and_eq_true] at hr'
  obtain ⟨-, hid, hg, -⟩ := hr'
  obtain ⟨hid1, hid2⟩ := inB_in hid
  obtain ⟨f, at', li, mo, de, ⟨oA, on, oc⟩, hm, -, -, -, -, -, -, hco⟩ := id h
  have hms := h
  obtain ⟨cs, hcs⟩ : ∃ cs, cs = m.cells := ⟨_, rfl⟩
  have c0 : cs[0]? = some (.int .i64 M.id) := by rw [hcs, hm]; rfl
  have c30 : cs[30]? = some (.slice oA on oc) := by rw [hcs, hm]; rfl
  have HSZ : Hid (cs.size = 31) := by rw [hcs]; rfl
  have HCS := Lib.hid hcs
  rw [← hcs]
  have hB := (Below.refl w.heap.size w).alloc (Nat.le_refl _) (.cells cs 30)
  have HB := Lib.hid hB
  have HBK := Lib.hid (Bk.new w 30 cs)
  obtain ⟨t, ht⟩ : ∃ t, t = M.opT := ⟨_, rfl⟩
  have HOP := Lib.hid fun (W : World) (hb : Below w.heap.size w W) => (show Calls Tryd.prog 19 #[.agg cs] W (RetT t W) by
    rw [hcs, ht]; exact operation_any M m S W (h.keep hb.size (fun x _ hlt => hb.block x hlt) (fun _ h _ => h)) hg hsm)
  have HOF := Lib.hid fun (W : World) (hb : Below w.heap.size w W) => (show Calls Tryd.prog 20 #[.slice oA on oc, .func (.func 21) #[] #[]] W (OfPost (M.controls.map tctl) W) from
    of_ctl_row ⟨oA, on, oc⟩ M.controls S W (RowOf.keep coAt_stable hco (T := S) hb.size (fun x _ hlt => hb.block x hlt) (fun _ h _ => h)) (by have := hsm.2.2.2.2; omega))
  have HRT := Lib.hid (show Calls Tryd.prog 16 #[.agg cs] (w.alloc (.cells cs 30)) (TellsQ true _) by
    have := msgRight_any M m S _ (h.keep hB.size (fun x _ hlt => hB.block x hlt) (fun _ h _ => h)) (ha.below hB); rwa [hr, ← hcs] at this)
  have hcn : on = M.controls.length := hco.1
  have hoc : on ≤ oc := hco.2.1
  have hom : oc ≤ 9223372036854775807 := by have := hco.2.2.1; unfold maxLen at this; simp at this; omega
  have HTR := Lib.hid (show (on = 0 → M.tree = tlist [tnum 2 M.id, t]) ∧ (on ≠ 0 → M.tree = tlist [tnum 2 M.id, t, .mk 2 true 0 ⟨#[]⟩ (M.controls.map tctl)]) from
    ⟨fun e => by rw [ht]; exact tree_none M (List.eq_nil_of_length_eq_zero (by omega)), fun e => by rw [ht]; exact tree_some M (fun hn => e (by rw [hcn, hn]; rfl))⟩)
  obtain ⟨T, hT⟩ : ∃ T, T = M.tree := ⟨_, rfl⟩
  rw [← hT] at HTR ⊢
  obtain ⟨cl, hcl⟩ : ∃ cl, cl = M.controls.map tctl := ⟨_, rfl⟩
  rw [← hcl] at HTR HOF
  obtain ⟨id, hid'⟩ : ∃ id, id = M.id := ⟨_, rfl⟩
  rw [← hid'] at c0 hid1 hid2 HTR
  have C30 := Lib.hid c30
  clear hcs hB h ha hr hms hm hco hid' hcn hT hcl ht hsm hid hg c30
  go_enter Tryd.func8, Tryd.ntmps8
  go_upto_region 3 with (first
    | (refine wpList_load_row rfl 30 (.tmp 1) rfl w.heap.size rfl 30 cs (0, 0) _ HBK.out Tryd.underlying30 rfl (by rw [HSZ.out]; exact HS.out) ?_)
    | (go_at_call 16; refine HRT.out.mono ?_; rintro e w1 ⟨rfl, hb1⟩; have HBK1 := Lib.hid (bk_below HBK.out hb1); have HB1 := Lib.hid (HB.out.trans (hb1.mono HB.out.size)); clear hb1)
    | fail)
  go_cut [4] from 8 to 14 (fun v wx => ∃ (g sb : Nat) (xs ys : List Value), v = .pointer (some ⟨g, 0, none⟩) ∧ EncN w wx cs g sb (tnum 2 id) t xs ys)
  case first =>
    have HBR := Lib.hid (Below.refl w1.heap.size w1).drew
    have HNM := Lib.hid (fun W => num_t 2 id rfl W (by omega) (by omega))
    skip
    refine wp_region_held_drew (S := fun W => Bk W w.heap.size 30 cs ∧ Below w1.heap.size w1 W) (by kernel_rfl) ⟨bk_below HBK1.out HBR.out, HBR.out⟩ (fun hHeld => ?_)
    refine wpAnyH_take (i := 0) (oi := { dst := some 8, op := Op.fieldAddr 30 (Operand.tmp 1) 0, type := 0, pos := "msg.go:266", after := #[], guard := none }) (v := ?_) rfl (by kernel_rfl) (by kernel_rfl) (by kernel_rfl) (fun _ _ _ h => h) (Or.inl ⟨by rfl, ?_⟩) hHeld ?_
    rotate_left
    · intro w0 hSw
      (try dsimp only at hSw)
      skip
      go_simp
      (try with_reducible rfl)
    try simp only [Act.put, List.setIfInBounds_toArray, List.set_cons_zero, List.set_cons_succ]
    refine wpAnyH_take (i := 1) (oi := { dst := some 9, op := Op.load 3 (Operand.tmp 8), type := 3, pos := "msg.go:266", after := #[{ on := 0, ground := Ground.data }], guard := none }) (v := ?_) rfl (by kernel_rfl) (by kernel_rfl) (by kernel_rfl) (fun _ _ _ h => h) (Or.inl ⟨by rfl, ?_⟩) hHeld ?_
    rotate_left
    · intro w0 hSw
      (try dsimp only at hSw)
      have hs0 : w0.cell? ⟨w.heap.size, 0, none⟩ = some (.int .i64 id) := (hSw.1.cell 0).trans c0
      go_simp
      (try with_reducible rfl)
    try simp only [Act.put, List.setIfInBounds_toArray, List.set_cons_zero, List.set_cons_succ]
    refine' wpAnyH_take (i := 3) (oi := { dst := some 11, op := Op.load 30 (Operand.tmp 1), type := 30, pos := "msg.go:266", after := #[], guard := none }) (v := _) rfl (by kernel_rfl) (by kernel_rfl) (by kernel_rfl) (fun _ _ _ h => h) (yieldsIf_load_mid (by rfl) _ _ rfl w.heap.size 0 rfl cs.toList _ (fun W hW => range_of hW.1) Tryd.underlying30 rfl (by rw [show cs.toList.length = 31 by simpa using HSZ.out]; exact HS.out)) hHeld ?_
    try simp only [Act.put, List.setIfInBounds_toArray, List.set_cons_zero, List.set_cons_succ]
    refine wpAnyH_ready (rs := [2, 7]) (by kernel_rfl) (by simp) ?_
    refine AllReadyH.cons (o := { dst := some 10, op := Op.call { callee := Callee.value (Operand.func 18), args := #[Operand.const (Value.int IntKind.i64 0), Operand.const (Value.int IntKind.i64 2), Operand.tmp 9], argTypes := #[3, 3, 3] }, type := 38, pos := "msg.go:266", after := #[{ on := 1, ground := Ground.data }], guard := none }) rfl (fun K hK => ?_) (AllReadyH.cons (o := { dst := some 4, op := Op.alloc 38, type := 0, pos := "msg.go:266", after := #[], guard := none }) rfl (fun K hK => ?_) AllReadyH.nil)
    · go_simp
      (go_at_call 18)
      refine (HNM.out _).mono ?_
      rintro e w2 ⟨hb2, cs2, rfl, ht2⟩
      obtain ⟨x0, x1, x2, x3, xA, xn, xc, rfl⟩ := tlAt_form ht2
      have hbn2 := bel_step (W := w1.drew) HBR.out hb2
      go_wp2_with fail
      refine hK.out _ _ ⟨bk_below HBK1.out hbn2, hbn2⟩ (fun hHeld2 => ?_)
      clear hK K hHeld
      have hHeld := hHeld2
      clear hHeld2
      try simp only [Act.put, List.setIfInBounds_toArray, List.set_cons_zero, List.set_cons_succ]
      refine wpAnyH_ready (rs := [4, 7]) (by kernel_rfl) (by simp) ?_
      refine AllReadyH.cons (o := { dst := some 12, op := Op.call { callee := Callee.value (Operand.func 19), args := #[Operand.tmp 11], argTypes := #[30] }, type := 38, pos := "msg.go:266", after := #[{ on := 3, ground := Ground.data }, { on := 2, ground := Ground.chain }], guard := none }) rfl (fun K hK => ?_) (AllReadyH.cons (o := { dst := some 4, op := Op.alloc 38, type := 0, pos := "msg.go:266", after := #[], guard := none }) rfl (fun K hK => ?_) AllReadyH.nil)
      · go_simp
        (go_at_call 19)
        refine (HOP.out _ (HB1.out.trans (Below.mono hbn2 HB1.out.size))).mono ?_
        rintro e w3 ⟨hb3, cs3, rfl, ht3⟩
        obtain ⟨y0, y1, y2, y3, yA, yn, yc, rfl⟩ := tlAt_form ht3
        have hbn3 := bel_step (W := w2) hbn2 hb3
        have h23 : Below w2.heap.size w2 w3 := hb3
        go_wp2_with fail
        refine hK.out _ _ ⟨bk_below HBK1.out hbn3, hbn3⟩ (fun hHeld2 => ?_)
        clear hK K hHeld
        have hHeld := hHeld2
        clear hHeld2
        try simp only [Act.put, List.setIfInBounds_toArray, List.set_cons_zero, List.set_cons_succ]
        refine wpAnyH_ready (rs := [5, 7]) (by kernel_rfl) (by simp) ?_
        refine AllReadyH.cons (o := { dst := some 13, op := Op.buildSlice 36 2 #[(0, Operand.tmp 10), (1, Operand.tmp 12)], type := 36, pos := "msg.go:266", after := #[{ on := 2, ground := Ground.data }, { on := 4, ground := Ground.data }], guard := none }) rfl (fun K hK => ?_) (AllReadyH.cons (o := { dst := some 4, op := Op.alloc 38, type := 0, pos := "msg.go:266", after := #[], guard := none }) rfl (fun K hK => ?_) AllReadyH.nil)
        · go_simp
          refine hK.out _ _ ⟨bk_below HBK1.out (bel1 hbn3 (.cells #[.int .i64 x0, .bool x1, .int .i64 x2, .string x3, .slice xA xn xc, .int .i64 y0, .bool y1, .int .i64 y2, .string y3, .slice yA yn yc] 38)), (bel1 hbn3 (.cells #[.int .i64 x0, .bool x1, .int .i64 x2, .string x3, .slice xA xn xc, .int .i64 y0, .bool y1, .int .i64 y2, .string y3, .slice yA yn yc] 38))⟩ (fun hHeld2 => ?_)
          clear hK K hHeld
          have hHeld := hHeld2
          clear hHeld2
          try simp only [Act.put, List.setIfInBounds_toArray, List.set_cons_zero, List.set_cons_succ]
          refine wpAnyH_ready (rs := [6, 7]) (by kernel_rfl) (by simp) ?_
          refine AllReadyH.cons (o := { dst := some 14, op := Op.call { callee := Callee.value (Operand.func 17), args := #[Operand.tmp 13], argTypes := #[36] }, type := 38, pos := "msg.go:266", after := #[{ on := 5, ground := Ground.data }, { on := 4, ground := Ground.chain }], guard := none }) rfl (fun K hK => ?_) (AllReadyH.cons (o := { dst := some 4, op := Op.alloc 38, type := 0, pos := "msg.go:266", after := #[], guard := none }) rfl (fun K hK => ?_) AllReadyH.nil)
          · go_simp
            (go_at_call 17)
            refine (list_t _ _ _ _).mono ?_
            rintro e w4 ⟨rfl, hb4⟩
            have hsl4 : Bk w4 w3.heap.size 38 #[.int .i64 x0, .bool x1, .int .i64 x2, .string x3, .slice xA xn xc, .int .i64 y0, .bool y1, .int .i64 y2, .string y3, .slice yA yn yc] := bk_below (w := (w3.alloc (.cells #[.int .i64 x0, .bool x1, .int .i64 x2, .string x3, .slice xA xn xc, .int .i64 y0, .bool y1, .int .i64 y2, .string y3, .slice yA yn yc] 38))) (Bk.new w3 38 #[.int .i64 x0, .bool x1, .int .i64 x2, .string x3, .slice xA xn xc, .int .i64 y0, .bool y1, .int .i64 y2, .string y3, .slice yA yn yc]) hb4
            have h34 : Below w3.heap.size w3 w4 := bel_step (W := (w3.alloc (.cells #[.int .i64 x0, .bool x1, .int .i64 x2, .string x3, .slice xA xn xc, .int .i64 y0, .bool y1, .int .i64 y2, .string y3, .slice yA yn yc] 38))) (bel1 (Below.refl _ _) _) hb4
            have hbn4 := bel_step (W := (w3.alloc (.cells #[.int .i64 x0, .bool x1, .int .i64 x2, .string x3, .slice xA xn xc, .int .i64 y0, .bool y1, .int .i64 y2, .string y3, .slice yA yn yc] 38))) (bel1 hbn3 (.cells #[.int .i64 x0, .bool x1, .int .i64 x2, .string x3, .slice xA xn xc, .int .i64 y0, .bool y1, .int .i64 y2, .string y3, .slice yA yn yc] 38)) hb4
            have hk3 : TlAt w4 (fun x => x ≠ w4.heap.size ∧ x ≠ w3.heap.size) t _ := TlAt.below h34 _ _ (TlAt.keep (T := fun x => x ≠ w4.heap.size ∧ x ≠ w3.heap.size) (Nat.le_refl _) (fun _ _ _ => rfl) (fun x hx hlt => by have hx : w2.heap.size ≤ x := hx; (try simp at hx); show x ≠ _ ∧ x ≠ _; have := h23.size; have := h34.size; omega) _ _ ht3)
            have hsb : w3.heap.size ≠ w4.heap.size := by have := h23.size; have := h34.size; have := hsl4.lt; omega
            have HL2 := Lib.hid (leaf_free ht2)
            have HK3 := Lib.hid hk3
            go_wp2_with fail
            refine hK.out _ _ ⟨bk_below HBK1.out hbn4, hbn4⟩ (fun hHeld2 => ?_)
            clear hK K hHeld
            have hHeld := hHeld2
            clear hHeld2
            try simp only [Act.put, List.setIfInBounds_toArray, List.set_cons_zero, List.set_cons_succ]
            refine wpAnyH_ready (rs := [7]) (by kernel_rfl) (by simp) ?_
            refine AllReadyH.cons (o := { dst := some 4, op := Op.alloc 38, type := 0, pos := "msg.go:266", after := #[], guard := none }) rfl (fun K hK => ?_) AllReadyH.nil
            go_simp
            refine hK.out _ _ ⟨bk_below HBK1.out (bel1 hbn4 (.cells #[.int .i64 0, .bool false, .int .i64 0, .string ⟨#[]⟩, .slice none 0 0] 38)), (bel1 hbn4 (.cells #[.int .i64 0, .bool false, .int .i64 0, .string ⟨#[]⟩, .slice none 0 0] 38))⟩ (fun hHeld2 => ?_)
            clear hK K hHeld
            have hHeld := hHeld2
            clear hHeld2
            try simp only [Act.put, List.setIfInBounds_toArray, List.set_cons_zero, List.set_cons_succ]
            refine wpAnyH_ready (rs := [8]) (by kernel_rfl) (by simp) ?_
            refine AllReadyH.cons (o := { dst := none, op := Op.store 38 (Operand.tmp 4) (Operand.tmp 14), type := 0, pos := "msg.go:266", after := #[{ on := 7, ground := Ground.data }, { on := 6, ground := Ground.data }, { on := 6, ground := Ground.chain }, { on := 0, ground := Ground.phase }, { on := 1, ground := Ground.phase }, { on := 2, ground := Ground.phase }, { on := 3, ground := Ground.phase }, { on := 4, ground := Ground.phase }, { on := 5, ground := Ground.phase }, { on := 6, ground := Ground.phase }, { on := 7, ground := Ground.phase }], guard := none }) rfl (fun K hK => ?_) AllReadyH.nil
            go_simp
            have hbF := (bel1 hbn4 (.cells #[.int .i64 0, .bool true, .int .i64 16, .string ⟨#[]⟩, .slice (some ⟨w3.heap.size, 0, none⟩) 2 2] 38))
            refine hK.out _ _ ⟨bk_below HBK1.out hbF, hbF⟩ (fun hHeld2 => ?_)
            clear hK K hHeld
            have hHeld := hHeld2
            clear hHeld2
            try simp only [Act.put, List.setIfInBounds_toArray, List.set_cons_zero, List.set_cons_succ]
            refine wpAnyH_done (by kernel_rfl) ?_ _
            have hoF : Off [] w4 _ := (Off.refl [] w4).alloc (.cells #[.int .i64 0, .bool true, .int .i64 16, .string ⟨#[]⟩, .slice (some ⟨w3.heap.size, 0, none⟩) 2 2] 38)
            have hlw1 := HBK1.out.lt
            have hsz2 := hbn2.size
            have hsz3 := hbn3.size
            have hsz4 := hbn4.size
            have hslt := hsl4.lt
            have hgF : Bk (w4.alloc (.cells #[.int .i64 0, .bool true, .int .i64 16, .string ⟨#[]⟩, .slice (some ⟨w3.heap.size, 0, none⟩) 2 2] 38)) w4.heap.size 38 #[.int .i64 0, .bool true, .int .i64 16, .string ⟨#[]⟩, .slice (some ⟨w3.heap.size, 0, none⟩) 2 2] := Bk.new w4 _ _
            have HEN := Lib.hid (show EncN w _ cs w4.heap.size w3.heap.size (tnum 2 id) t [.int .i64 x0, .bool x1, .int .i64 x2, .string x3, .slice xA xn xc] [.int .i64 y0, .bool y1, .int .i64 y2, .string y3, .slice yA yn yc] from ⟨HB1.out.trans (hbF.mono HB1.out.size), bk_below HBK1.out hbF, hgF, hoF.bk hsl4 (by simp), ⟨rfl, HL2.out⟩, ⟨rfl, TlAt.keep (T := fun x => x ≠ w4.heap.size ∧ x ≠ w3.heap.size) hoF.size (fun x hx hlt => hoF.block x hlt (by simp)) (fun x hx _ => hx) _ _ HK3.out⟩, ⟨hsb, by omega, by omega⟩⟩)
            clear hHeld hoF hbF hsl4 hk3 hsb h23 h34 ht2 ht3 hgF HL2 HK3
            go_wp2_with fail
            go_meet
            exact ⟨_, _, _, _, rfl, HEN.out⟩
          · go_simp
            refine hK.out _ _ ⟨bk_below HBK1.out (bel1 (bel1 hbn3 (.cells #[.int .i64 x0, .bool x1, .int .i64 x2, .string x3, .slice xA xn xc, .int .i64 y0, .bool y1, .int .i64 y2, .string y3, .slice yA yn yc] 38)) (.cells #[.int .i64 0, .bool false, .int .i64 0, .string ⟨#[]⟩, .slice none 0 0] 38)), (bel1 (bel1 hbn3 (.cells #[.int .i64 x0, .bool x1, .int .i64 x2, .string x3, .slice xA xn xc, .int .i64 y0, .bool y1, .int .i64 y2, .string y3, .slice yA yn yc] 38)) (.cells #[.int .i64 0, .bool false, .int .i64 0, .string ⟨#[]⟩, .slice none 0 0] 38))⟩ (fun hHeld2 => ?_)
            clear hK K hHeld
            have hHeld := hHeld2
            clear hHeld2
            try simp only [Act.put, List.setIfInBounds_toArray, List.set_cons_zero, List.set_cons_succ]
            refine wpAnyH_ready (rs := [6]) (by kernel_rfl) (by simp) ?_
            refine AllReadyH.cons (o := { dst := some 14, op := Op.call { callee := Callee.value (Operand.func 17), args := #[Operand.tmp 13], argTypes := #[36] }, type := 38, pos := "msg.go:266", after := #[{ on := 5, ground := Ground.data }, { on := 4, ground := Ground.chain }], guard := none }) rfl (fun K hK => ?_) AllReadyH.nil
            go_simp
            (go_at_call 17)
            refine (list_t _ _ _ _).mono ?_
            rintro e w4 ⟨rfl, hb4⟩
            have hsl4 : Bk w4 w3.heap.size 38 #[.int .i64 x0, .bool x1, .int .i64 x2, .string x3, .slice xA xn xc, .int .i64 y0, .bool y1, .int .i64 y2, .string y3, .slice yA yn yc] := bk_below (w := ((w3.alloc (.cells #[.int .i64 x0, .bool x1, .int .i64 x2, .string x3, .slice xA xn xc, .int .i64 y0, .bool y1, .int .i64 y2, .string y3, .slice yA yn yc] 38)).alloc (.cells #[.int .i64 0, .bool false, .int .i64 0, .string ⟨#[]⟩, .slice none 0 0] 38))) (Bk.alloc (Bk.new w3 38 #[.int .i64 x0, .bool x1, .int .i64 x2, .string x3, .slice xA xn xc, .int .i64 y0, .bool y1, .int .i64 y2, .string y3, .slice yA yn yc]) (.cells #[.int .i64 0, .bool false, .int .i64 0, .string ⟨#[]⟩, .slice none 0 0] 38)) hb4
            have h34 : Below w3.heap.size w3 w4 := bel_step (W := ((w3.alloc (.cells #[.int .i64 x0, .bool x1, .int .i64 x2, .string x3, .slice xA xn xc, .int .i64 y0, .bool y1, .int .i64 y2, .string y3, .slice yA yn yc] 38)).alloc (.cells #[.int .i64 0, .bool false, .int .i64 0, .string ⟨#[]⟩, .slice none 0 0] 38))) (bel2 (Below.refl _ _) _ _) hb4
            have hz4 : Bk w4 (w3.heap.size + 1) 38 #[.int .i64 0, .bool false, .int .i64 0, .string ⟨#[]⟩, .slice none 0 0] := bk_below (w := ((w3.alloc (.cells #[.int .i64 x0, .bool x1, .int .i64 x2, .string x3, .slice xA xn xc, .int .i64 y0, .bool y1, .int .i64 y2, .string y3, .slice yA yn yc] 38)).alloc (.cells #[.int .i64 0, .bool false, .int .i64 0, .string ⟨#[]⟩, .slice none 0 0] 38))) (show Bk ((w3.alloc (.cells #[.int .i64 x0, .bool x1, .int .i64 x2, .string x3, .slice xA xn xc, .int .i64 y0, .bool y1, .int .i64 y2, .string y3, .slice yA yn yc] 38)).alloc (.cells #[.int .i64 0, .bool false, .int .i64 0, .string ⟨#[]⟩, .slice none 0 0] 38)) (w3.heap.size + 1) 38 #[.int .i64 0, .bool false, .int .i64 0, .string ⟨#[]⟩, .slice none 0 0] by have h := Bk.new (w3.alloc (.cells #[.int .i64 x0, .bool x1, .int .i64 x2, .string x3, .slice xA xn xc, .int .i64 y0, .bool y1, .int .i64 y2, .string y3, .slice yA yn yc] 38)) 38 #[.int .i64 0, .bool false, .int .i64 0, .string ⟨#[]⟩, .slice none 0 0]; simpa using h) hb4
            obtain ⟨z0, z1, z2, z3, z4⟩ := hz4.five
            have g0 := hz4.frozen 0
            have g1 := hz4.frozen 1
            have g2 := hz4.frozen 2
            have g3 := hz4.frozen 3
            have g4 := hz4.frozen 4
            have gl := hz4.lt
            have hbn4 := bel_step (W := ((w3.alloc (.cells #[.int .i64 x0, .bool x1, .int .i64 x2, .string x3, .slice xA xn xc, .int .i64 y0, .bool y1, .int .i64 y2, .string y3, .slice yA yn yc] 38)).alloc (.cells #[.int .i64 0, .bool false, .int .i64 0, .string ⟨#[]⟩, .slice none 0 0] 38))) (bel1 (bel1 hbn3 (.cells #[.int .i64 x0, .bool x1, .int .i64 x2, .string x3, .slice xA xn xc, .int .i64 y0, .bool y1, .int .i64 y2, .string y3, .slice yA yn yc] 38)) (.cells #[.int .i64 0, .bool false, .int .i64 0, .string ⟨#[]⟩, .slice none 0 0] 38)) hb4
            have hk3 : TlAt w4 (fun x => x ≠ (w3.heap.size + 1) ∧ x ≠ w3.heap.size) t _ := TlAt.below h34 _ _ (TlAt.keep (T := fun x => x ≠ (w3.heap.size + 1) ∧ x ≠ w3.heap.size) (Nat.le_refl _) (fun _ _ _ => rfl) (fun x hx hlt => by have hx : w2.heap.size ≤ x := hx; (try simp at hx); show x ≠ _ ∧ x ≠ _; have := h23.size; have := h34.size; omega) _ _ ht3)
            have hsb : w3.heap.size ≠ (w3.heap.size + 1) := by have := h23.size; have := h34.size; have := hsl4.lt; omega
            have HL2 := Lib.hid (leaf_free ht2)
            have HK3 := Lib.hid hk3
            go_wp2_with fail
            refine hK.out _ _ ⟨bk_below HBK1.out hbn4, hbn4⟩ (fun hHeld2 => ?_)
            clear hK K hHeld
            have hHeld := hHeld2
            clear hHeld2
            try simp only [Act.put, List.setIfInBounds_toArray, List.set_cons_zero, List.set_cons_succ]
            refine wpAnyH_ready (rs := [8]) (by kernel_rfl) (by simp) ?_
            refine AllReadyH.cons (o := { dst := none, op := Op.store 38 (Operand.tmp 4) (Operand.tmp 14), type := 0, pos := "msg.go:266", after := #[{ on := 7, ground := Ground.data }, { on := 6, ground := Ground.data }, { on := 6, ground := Ground.chain }, { on := 0, ground := Ground.phase }, { on := 1, ground := Ground.phase }, { on := 2, ground := Ground.phase }, { on := 3, ground := Ground.phase }, { on := 4, ground := Ground.phase }, { on := 5, ground := Ground.phase }, { on := 6, ground := Ground.phase }, { on := 7, ground := Ground.phase }], guard := none }) rfl (fun K hK => ?_) AllReadyH.nil
            go_simp
            have hbF := (bel5 (b := (w3.heap.size + 1)) hbn4 (by have := hbn2.size; have := hbn3.size; have := hbn4.size; omega) (.int .i64 0) (.bool true) (.int .i64 16) (.string ⟨#[]⟩) (.slice (some ⟨w3.heap.size, 0, none⟩) 2 2))
            refine hK.out _ _ ⟨bk_below HBK1.out hbF, hbF⟩ (fun hHeld2 => ?_)
            clear hK K hHeld
            have hHeld := hHeld2
            clear hHeld2
            try simp only [Act.put, List.setIfInBounds_toArray, List.set_cons_zero, List.set_cons_succ]
            refine wpAnyH_done (by kernel_rfl) ?_ _
            have hoF : Off [(w3.heap.size + 1)] w4 _ := (((((Off.refl [(w3.heap.size + 1)] w4).setCell (p := ⟨(w3.heap.size + 1), 0, none⟩) (.inl (by simp)) (.int .i64 0)).setCell (p := ⟨(w3.heap.size + 1), 1, none⟩) (.inl (by simp)) (.bool true)).setCell (p := ⟨(w3.heap.size + 1), 2, none⟩) (.inl (by simp)) (.int .i64 16)).setCell (p := ⟨(w3.heap.size + 1), 3, none⟩) (.inl (by simp)) (.string ⟨#[]⟩)).setCell (p := ⟨(w3.heap.size + 1), 4, none⟩) (.inl (by simp)) (.slice (some ⟨w3.heap.size, 0, none⟩) 2 2)
            have hlw1 := HBK1.out.lt
            have hsz2 := hbn2.size
            have hsz3 := hbn3.size
            have hsz4 := hbn4.size
            have hslt := hsl4.lt
            have hgF := ((((hz4.put 0 (.int .i64 0)).put 1 (.bool true)).put 2 (.int .i64 16)).put 3 (.string ⟨#[]⟩)).put 4 (.slice (some ⟨w3.heap.size, 0, none⟩) 2 2)
            simp only [List.setIfInBounds_toArray, List.set_cons_succ, List.set_cons_zero] at hgF
            have HEN := Lib.hid (show EncN w _ cs (w3.heap.size + 1) w3.heap.size (tnum 2 id) t [.int .i64 x0, .bool x1, .int .i64 x2, .string x3, .slice xA xn xc] [.int .i64 y0, .bool y1, .int .i64 y2, .string y3, .slice yA yn yc] from ⟨HB1.out.trans (hbF.mono HB1.out.size), bk_below HBK1.out hbF, hgF, hoF.bk hsl4 (by first | (simp; done) | simpa using hsb), ⟨rfl, HL2.out⟩, ⟨rfl, TlAt.keep (T := fun x => x ≠ (w3.heap.size + 1) ∧ x ≠ w3.heap.size) hoF.size (fun x hx hlt => hoF.block x hlt (by simpa using hx.1)) (fun x hx _ => hx) _ _ HK3.out⟩, ⟨hsb, by omega, by omega⟩⟩)
            clear hHeld hoF hbF hsl4 hk3 hsb h23 h34 ht2 ht3 hgF HL2 HK3
            go_wp2_with fail
            go_meet
            exact ⟨_, _, _, _, rfl, HEN.out⟩
        · go_simp
          refine hK.out _ _ ⟨bk_below HBK1.out (bel1 hbn3 (.cells #[.int .i64 0, .bool false, .int .i64 0, .string ⟨#[]⟩, .slice none 0 0] 38)), (bel1 hbn3 (.cells #[.int .i64 0, .bool false, .int .i64 0, .string ⟨#[]⟩, .slice none 0 0] 38))⟩ (fun hHeld2 => ?_)
          clear hK K hHeld
          have hHeld := hHeld2
          clear hHeld2
          try simp only [Act.put, List.setIfInBounds_toArray, List.set_cons_zero, List.set_cons_succ]
          refine wpAnyH_ready (rs := [5]) (by kernel_rfl) (by simp) ?_
          refine AllReadyH.cons (o := { dst := some 13, op := Op.buildSlice 36 2 #[(0, Operand.tmp 10), (1, Operand.tmp 12)], type := 36, pos := "msg.go:266", after := #[{ on := 2, ground := Ground.data }, { on := 4, ground := Ground.data }], guard := none }) rfl (fun K hK => ?_) AllReadyH.nil
          go_simp
          refine hK.out _ _ ⟨bk_below HBK1.out (bel1 (bel1 hbn3 (.cells #[.int .i64 0, .bool false, .int .i64 0, .string ⟨#[]⟩, .slice none 0 0] 38)) (.cells #[.int .i64 x0, .bool x1, .int .i64 x2, .string x3, .slice xA xn xc, .int .i64 y0, .bool y1, .int .i64 y2, .string y3, .slice yA yn yc] 38)), (bel1 (bel1 hbn3 (.cells #[.int .i64 0, .bool false, .int .i64 0, .string ⟨#[]⟩, .slice none 0 0] 38)) (.cells #[.int .i64 x0, .bool x1, .int .i64 x2, .string x3, .slice xA xn xc, .int .i64 y0, .bool y1, .int .i64 y2, .string y3, .slice yA yn yc] 38))⟩ (fun hHeld2 => ?_)
          clear hK K hHeld
          have hHeld := hHeld2
          clear hHeld2
          try simp only [Act.put, List.setIfInBounds_toArray, List.set_cons_zero, List.set_cons_succ]
          refine wpAnyH_ready (rs := [6]) (by kernel_rfl) (by simp) ?_
          refine AllReadyH.cons (o := { dst := some 14, op := Op.call { callee := Callee.value (Operand.func 17), args := #[Operand.tmp 13], argTypes := #[36] }, type := 38, pos := "msg.go:266", after := #[{ on := 5, ground := Ground.data }, { on := 4, ground := Ground.chain }], guard := none }) rfl (fun K hK => ?_) AllReadyH.nil
          go_simp
          (go_at_call 17)
          refine (list_t _ _ _ _).mono ?_
          rintro e w4 ⟨rfl, hb4⟩
          have hsl4 : Bk w4 (w3.heap.size + 1) 38 #[.int .i64 x0, .bool x1, .int .i64 x2, .string x3, .slice xA xn xc, .int .i64 y0, .bool y1, .int .i64 y2, .string y3, .slice yA yn yc] := bk_below (w := ((w3.alloc (.cells #[.int .i64 0, .bool false, .int .i64 0, .string ⟨#[]⟩, .slice none 0 0] 38)).alloc (.cells #[.int .i64 x0, .bool x1, .int .i64 x2, .string x3, .slice xA xn xc, .int .i64 y0, .bool y1, .int .i64 y2, .string y3, .slice yA yn yc] 38))) (show Bk ((w3.alloc (.cells #[.int .i64 0, .bool false, .int .i64 0, .string ⟨#[]⟩, .slice none 0 0] 38)).alloc (.cells #[.int .i64 x0, .bool x1, .int .i64 x2, .string x3, .slice xA xn xc, .int .i64 y0, .bool y1, .int .i64 y2, .string y3, .slice yA yn yc] 38)) (w3.heap.size + 1) 38 #[.int .i64 x0, .bool x1, .int .i64 x2, .string x3, .slice xA xn xc, .int .i64 y0, .bool y1, .int .i64 y2, .string y3, .slice yA yn yc] by have h := Bk.new (w3.alloc (.cells #[.int .i64 0, .bool false, .int .i64 0, .string ⟨#[]⟩, .slice none 0 0] 38)) 38 #[.int .i64 x0, .bool x1, .int .i64 x2, .string x3, .slice xA xn xc, .int .i64 y0, .bool y1, .int .i64 y2, .string y3, .slice yA yn yc]; simpa using h) hb4
          have h34 : Below w3.heap.size w3 w4 := bel_step (W := ((w3.alloc (.cells #[.int .i64 0, .bool false, .int .i64 0, .string ⟨#[]⟩, .slice none 0 0] 38)).alloc (.cells #[.int .i64 x0, .bool x1, .int .i64 x2, .string x3, .slice xA xn xc, .int .i64 y0, .bool y1, .int .i64 y2, .string y3, .slice yA yn yc] 38))) (bel2 (Below.refl _ _) _ _) hb4
          have hz4 : Bk w4 w3.heap.size 38 #[.int .i64 0, .bool false, .int .i64 0, .string ⟨#[]⟩, .slice none 0 0] := bk_below (w := ((w3.alloc (.cells #[.int .i64 0, .bool false, .int .i64 0, .string ⟨#[]⟩, .slice none 0 0] 38)).alloc (.cells #[.int .i64 x0, .bool x1, .int .i64 x2, .string x3, .slice xA xn xc, .int .i64 y0, .bool y1, .int .i64 y2, .string y3, .slice yA yn yc] 38))) (Bk.alloc (Bk.new w3 38 #[.int .i64 0, .bool false, .int .i64 0, .string ⟨#[]⟩, .slice none 0 0]) (.cells #[.int .i64 x0, .bool x1, .int .i64 x2, .string x3, .slice xA xn xc, .int .i64 y0, .bool y1, .int .i64 y2, .string y3, .slice yA yn yc] 38)) hb4
          obtain ⟨z0, z1, z2, z3, z4⟩ := hz4.five
          have g0 := hz4.frozen 0
          have g1 := hz4.frozen 1
          have g2 := hz4.frozen 2
          have g3 := hz4.frozen 3
          have g4 := hz4.frozen 4
          have gl := hz4.lt
          have hbn4 := bel_step (W := ((w3.alloc (.cells #[.int .i64 0, .bool false, .int .i64 0, .string ⟨#[]⟩, .slice none 0 0] 38)).alloc (.cells #[.int .i64 x0, .bool x1, .int .i64 x2, .string x3, .slice xA xn xc, .int .i64 y0, .bool y1, .int .i64 y2, .string y3, .slice yA yn yc] 38))) (bel1 (bel1 hbn3 (.cells #[.int .i64 0, .bool false, .int .i64 0, .string ⟨#[]⟩, .slice none 0 0] 38)) (.cells #[.int .i64 x0, .bool x1, .int .i64 x2, .string x3, .slice xA xn xc, .int .i64 y0, .bool y1, .int .i64 y2, .string y3, .slice yA yn yc] 38)) hb4
          have hk3 : TlAt w4 (fun x => x ≠ w3.heap.size ∧ x ≠ (w3.heap.size + 1)) t _ := TlAt.below h34 _ _ (TlAt.keep (T := fun x => x ≠ w3.heap.size ∧ x ≠ (w3.heap.size + 1)) (Nat.le_refl _) (fun _ _ _ => rfl) (fun x hx hlt => by have hx : w2.heap.size ≤ x := hx; (try simp at hx); show x ≠ _ ∧ x ≠ _; have := h23.size; have := h34.size; omega) _ _ ht3)
          have hsb : (w3.heap.size + 1) ≠ w3.heap.size := by have := h23.size; have := h34.size; have := hsl4.lt; omega
          have HL2 := Lib.hid (leaf_free ht2)
          have HK3 := Lib.hid hk3
          go_wp2_with fail
          refine hK.out _ _ ⟨bk_below HBK1.out hbn4, hbn4⟩ (fun hHeld2 => ?_)
          clear hK K hHeld
          have hHeld := hHeld2
          clear hHeld2
          try simp only [Act.put, List.setIfInBounds_toArray, List.set_cons_zero, List.set_cons_succ]
          refine wpAnyH_ready (rs := [8]) (by kernel_rfl) (by simp) ?_
          refine AllReadyH.cons (o := { dst := none, op := Op.store 38 (Operand.tmp 4) (Operand.tmp 14), type := 0, pos := "msg.go:266", after := #[{ on := 7, ground := Ground.data }, { on := 6, ground := Ground.data }, { on := 6, ground := Ground.chain }, { on := 0, ground := Ground.phase }, { on := 1, ground := Ground.phase }, { on := 2, ground := Ground.phase }, { on := 3, ground := Ground.phase }, { on := 4, ground := Ground.phase }, { on := 5, ground := Ground.phase }, { on := 6, ground := Ground.phase }, { on := 7, ground := Ground.phase }], guard := none }) rfl (fun K hK => ?_) AllReadyH.nil
          go_simp
          have hbF := (bel5 (b := w3.heap.size) hbn4 (by have := hbn2.size; have := hbn3.size; have := hbn4.size; omega) (.int .i64 0) (.bool true) (.int .i64 16) (.string ⟨#[]⟩) (.slice (some ⟨(w3.heap.size + 1), 0, none⟩) 2 2))
          refine hK.out _ _ ⟨bk_below HBK1.out hbF, hbF⟩ (fun hHeld2 => ?_)
          clear hK K hHeld
          have hHeld := hHeld2
          clear hHeld2
          try simp only [Act.put, List.setIfInBounds_toArray, List.set_cons_zero, List.set_cons_succ]
          refine wpAnyH_done (by kernel_rfl) ?_ _
          have hoF : Off [w3.heap.size] w4 _ := (((((Off.refl [w3.heap.size] w4).setCell (p := ⟨w3.heap.size, 0, none⟩) (.inl (by simp)) (.int .i64 0)).setCell (p := ⟨w3.heap.size, 1, none⟩) (.inl (by simp)) (.bool true)).setCell (p := ⟨w3.heap.size, 2, none⟩) (.inl (by simp)) (.int .i64 16)).setCell (p := ⟨w3.heap.size, 3, none⟩) (.inl (by simp)) (.string ⟨#[]⟩)).setCell (p := ⟨w3.heap.size, 4, none⟩) (.inl (by simp)) (.slice (some ⟨(w3.heap.size + 1), 0, none⟩) 2 2)
          have hlw1 := HBK1.out.lt
          have hsz2 := hbn2.size
          have hsz3 := hbn3.size
          have hsz4 := hbn4.size
          have hslt := hsl4.lt
          have hgF := ((((hz4.put 0 (.int .i64 0)).put 1 (.bool true)).put 2 (.int .i64 16)).put 3 (.string ⟨#[]⟩)).put 4 (.slice (some ⟨(w3.heap.size + 1), 0, none⟩) 2 2)
          simp only [List.setIfInBounds_toArray, List.set_cons_succ, List.set_cons_zero] at hgF
          have HEN := Lib.hid (show EncN w _ cs w3.heap.size (w3.heap.size + 1) (tnum 2 id) t [.int .i64 x0, .bool x1, .int .i64 x2, .string x3, .slice xA xn xc] [.int .i64 y0, .bool y1, .int .i64 y2, .string y3, .slice yA yn yc] from ⟨HB1.out.trans (hbF.mono HB1.out.size), bk_below HBK1.out hbF, hgF, hoF.bk hsl4 (by first | (simp; done) | simpa using hsb), ⟨rfl, HL2.out⟩, ⟨rfl, TlAt.keep (T := fun x => x ≠ w3.heap.size ∧ x ≠ (w3.heap.size + 1)) hoF.size (fun x hx hlt => hoF.block x hlt (by simpa using hx.1)) (fun x hx _ => hx) _ _ HK3.out⟩, ⟨hsb, by omega, by omega⟩⟩)
          clear hHeld hoF hbF hsl4 hk3 hsb h23 h34 ht2 ht3 hgF HL2 HK3
          go_wp2_with fail
          go_meet
          exact ⟨_, _, _, _, rfl, HEN.out⟩
      · go_simp
        refine hK.out _ _ ⟨bk_below HBK1.out (bel1 hbn2 (.cells #[.int .i64 0, .bool false, .int .i64 0, .string ⟨#[]⟩, .slice none 0 0] 38)), (bel1 hbn2 (.cells #[.int .i64 0, .bool false, .int .i64 0, .string ⟨#[]⟩, .slice none 0 0] 38))⟩ (fun hHeld2 => ?_)
        clear hK K hHeld
        have hHeld := hHeld2
        clear hHeld2
        try simp only [Act.put, List.setIfInBounds_toArray, List.set_cons_zero, List.set_cons_succ]
        refine wpAnyH_ready (rs := [4]) (by kernel_rfl) (by simp) ?_
        refine AllReadyH.cons (o := { dst := some 12, op := Op.call { callee := Callee.value (Operand.func 19), args := #[Operand.tmp 11], argTypes := #[30] }, type := 38, pos := "msg.go:266", after := #[{ on := 3, ground := Ground.data }, { on := 2, ground := Ground.chain }], guard := none }) rfl (fun K hK => ?_) AllReadyH.nil
        go_simp
        (go_at_call 19)
        refine (HOP.out _ (HB1.out.trans (Below.mono (bel1 hbn2 (.cells #[.int .i64 0, .bool false, .int .i64 0, .string ⟨#[]⟩, .slice none 0 0] 38)) HB1.out.size))).mono ?_
        rintro e w3 ⟨hb3, cs3, rfl, ht3⟩
        obtain ⟨y0, y1, y2, y3, yA, yn, yc, rfl⟩ := tlAt_form ht3
        have hbn3 := bel_step (W := (w2.alloc (.cells #[.int .i64 0, .bool false, .int .i64 0, .string ⟨#[]⟩, .slice none 0 0] 38))) (bel1 hbn2 (.cells #[.int .i64 0, .bool false, .int .i64 0, .string ⟨#[]⟩, .slice none 0 0] 38)) hb3
        have h23 : Below w2.heap.size w2 w3 := bel_step (W := (w2.alloc (.cells #[.int .i64 0, .bool false, .int .i64 0, .string ⟨#[]⟩, .slice none 0 0] 38))) (bel1 (Below.refl _ _) _) hb3
        have hz3 : Bk w3 w2.heap.size 38 #[.int .i64 0, .bool false, .int .i64 0, .string ⟨#[]⟩, .slice none 0 0] := bk_below (w := (w2.alloc (.cells #[.int .i64 0, .bool false, .int .i64 0, .string ⟨#[]⟩, .slice none 0 0] 38))) (Bk.new w2 38 #[.int .i64 0, .bool false, .int .i64 0, .string ⟨#[]⟩, .slice none 0 0]) hb3
        go_wp2_with fail
        refine hK.out _ _ ⟨bk_below HBK1.out hbn3, hbn3⟩ (fun hHeld2 => ?_)
        clear hK K hHeld
        have hHeld := hHeld2
        clear hHeld2
        try simp only [Act.put, List.setIfInBounds_toArray, List.set_cons_zero, List.set_cons_succ]
        refine wpAnyH_ready (rs := [5]) (by kernel_rfl) (by simp) ?_
        refine AllReadyH.cons (o := { dst := some 13, op := Op.buildSlice 36 2 #[(0, Operand.tmp 10), (1, Operand.tmp 12)], type := 36, pos := "msg.go:266", after := #[{ on := 2, ground := Ground.data }, { on := 4, ground := Ground.data }], guard := none }) rfl (fun K hK => ?_) AllReadyH.nil
        go_simp
        refine hK.out _ _ ⟨bk_below HBK1.out (bel1 hbn3 (.cells #[.int .i64 x0, .bool x1, .int .i64 x2, .string x3, .slice xA xn xc, .int .i64 y0, .bool y1, .int .i64 y2, .string y3, .slice yA yn yc] 38)), (bel1 hbn3 (.cells #[.int .i64 x0, .bool x1, .int .i64 x2, .string x3, .slice xA xn xc, .int .i64 y0, .bool y1, .int .i64 y2, .string y3, .slice yA yn yc] 38))⟩ (fun hHeld2 => ?_)
        clear hK K hHeld
        have hHeld := hHeld2
        clear hHeld2
        try simp only [Act.put, List.setIfInBounds_toArray, List.set_cons_zero, List.set_cons_succ]
        refine wpAnyH_ready (rs := [6]) (by kernel_rfl) (by simp) ?_
        refine AllReadyH.cons (o := { dst := some 14, op := Op.call { callee := Callee.value (Operand.func 17), args := #[Operand.tmp 13], argTypes := #[36] }, type := 38, pos := "msg.go:266", after := #[{ on := 5, ground := Ground.data }, { on := 4, ground := Ground.chain }], guard := none }) rfl (fun K hK => ?_) AllReadyH.nil
        go_simp
        (go_at_call 17)
        refine (list_t _ _ _ _).mono ?_
        rintro e w4 ⟨rfl, hb4⟩
        have hsl4 : Bk w4 w3.heap.size 38 #[.int .i64 x0, .bool x1, .int .i64 x2, .string x3, .slice xA xn xc, .int .i64 y0, .bool y1, .int .i64 y2, .string y3, .slice yA yn yc] := bk_below (w := (w3.alloc (.cells #[.int .i64 x0, .bool x1, .int .i64 x2, .string x3, .slice xA xn xc, .int .i64 y0, .bool y1, .int .i64 y2, .string y3, .slice yA yn yc] 38))) (Bk.new w3 38 #[.int .i64 x0, .bool x1, .int .i64 x2, .string x3, .slice xA xn xc, .int .i64 y0, .bool y1, .int .i64 y2, .string y3, .slice yA yn yc]) hb4
        have h34 : Below w3.heap.size w3 w4 := bel_step (W := (w3.alloc (.cells #[.int .i64 x0, .bool x1, .int .i64 x2, .string x3, .slice xA xn xc, .int .i64 y0, .bool y1, .int .i64 y2, .string y3, .slice yA yn yc] 38))) (bel1 (Below.refl _ _) _) hb4
        have hz4 : Bk w4 w2.heap.size 38 #[.int .i64 0, .bool false, .int .i64 0, .string ⟨#[]⟩, .slice none 0 0] := bk_below (w := (w3.alloc (.cells #[.int .i64 x0, .bool x1, .int .i64 x2, .string x3, .slice xA xn xc, .int .i64 y0, .bool y1, .int .i64 y2, .string y3, .slice yA yn yc] 38))) (Bk.alloc hz3 (.cells #[.int .i64 x0, .bool x1, .int .i64 x2, .string x3, .slice xA xn xc, .int .i64 y0, .bool y1, .int .i64 y2, .string y3, .slice yA yn yc] 38)) hb4
        obtain ⟨z0, z1, z2, z3, z4⟩ := hz4.five
        have g0 := hz4.frozen 0
        have g1 := hz4.frozen 1
        have g2 := hz4.frozen 2
        have g3 := hz4.frozen 3
        have g4 := hz4.frozen 4
        have gl := hz4.lt
        have hbn4 := bel_step (W := (w3.alloc (.cells #[.int .i64 x0, .bool x1, .int .i64 x2, .string x3, .slice xA xn xc, .int .i64 y0, .bool y1, .int .i64 y2, .string y3, .slice yA yn yc] 38))) (bel1 hbn3 (.cells #[.int .i64 x0, .bool x1, .int .i64 x2, .string x3, .slice xA xn xc, .int .i64 y0, .bool y1, .int .i64 y2, .string y3, .slice yA yn yc] 38)) hb4
        have hk3 : TlAt w4 (fun x => x ≠ w2.heap.size ∧ x ≠ w3.heap.size) t _ := TlAt.below h34 _ _ (TlAt.keep (T := fun x => x ≠ w2.heap.size ∧ x ≠ w3.heap.size) (Nat.le_refl _) (fun _ _ _ => rfl) (fun x hx hlt => by have hx : (w2.alloc (.cells #[.int .i64 0, .bool false, .int .i64 0, .string ⟨#[]⟩, .slice none 0 0] 38)).heap.size ≤ x := hx; (try simp at hx); show x ≠ _ ∧ x ≠ _; have := h23.size; have := h34.size; have := hz3.lt; omega) _ _ ht3)
        have hsb : w3.heap.size ≠ w2.heap.size := by have := h23.size; have := h34.size; have := hz3.lt; have := hsl4.lt; omega
        have HL2 := Lib.hid (leaf_free ht2)
        have HK3 := Lib.hid hk3
        go_wp2_with fail
        refine hK.out _ _ ⟨bk_below HBK1.out hbn4, hbn4⟩ (fun hHeld2 => ?_)
        clear hK K hHeld
        have hHeld := hHeld2
        clear hHeld2
        try simp only [Act.put, List.setIfInBounds_toArray, List.set_cons_zero, List.set_cons_succ]
        refine wpAnyH_ready (rs := [8]) (by kernel_rfl) (by simp) ?_
        refine AllReadyH.cons (o := { dst := none, op := Op.store 38 (Operand.tmp 4) (Operand.tmp 14), type := 0, pos := "msg.go:266", after := #[{ on := 7, ground := Ground.data }, { on := 6, ground := Ground.data }, { on := 6, ground := Ground.chain }, { on := 0, ground := Ground.phase }, { on := 1, ground := Ground.phase }, { on := 2, ground := Ground.phase }, { on := 3, ground := Ground.phase }, { on := 4, ground := Ground.phase }, { on := 5, ground := Ground.phase }, { on := 6, ground := Ground.phase }, { on := 7, ground := Ground.phase }], guard := none }) rfl (fun K hK => ?_) AllReadyH.nil
        go_simp
        have hbF := (bel5 (b := w2.heap.size) hbn4 (by have := hbn2.size; have := hbn3.size; have := hbn4.size; omega) (.int .i64 0) (.bool true) (.int .i64 16) (.string ⟨#[]⟩) (.slice (some ⟨w3.heap.size, 0, none⟩) 2 2))
        refine hK.out _ _ ⟨bk_below HBK1.out hbF, hbF⟩ (fun hHeld2 => ?_)
        clear hK K hHeld
        have hHeld := hHeld2
        clear hHeld2
        try simp only [Act.put, List.setIfInBounds_toArray, List.set_cons_zero, List.set_cons_succ]
        refine wpAnyH_done (by kernel_rfl) ?_ _
        have hoF : Off [w2.heap.size] w4 _ := (((((Off.refl [w2.heap.size] w4).setCell (p := ⟨w2.heap.size, 0, none⟩) (.inl (by simp)) (.int .i64 0)).setCell (p := ⟨w2.heap.size, 1, none⟩) (.inl (by simp)) (.bool true)).setCell (p := ⟨w2.heap.size, 2, none⟩) (.inl (by simp)) (.int .i64 16)).setCell (p := ⟨w2.heap.size, 3, none⟩) (.inl (by simp)) (.string ⟨#[]⟩)).setCell (p := ⟨w2.heap.size, 4, none⟩) (.inl (by simp)) (.slice (some ⟨w3.heap.size, 0, none⟩) 2 2)
        have hlw1 := HBK1.out.lt
        have hsz2 := hbn2.size
        have hsz3 := hbn3.size
        have hsz4 := hbn4.size
        have hslt := hsl4.lt
        have hgF := ((((hz4.put 0 (.int .i64 0)).put 1 (.bool true)).put 2 (.int .i64 16)).put 3 (.string ⟨#[]⟩)).put 4 (.slice (some ⟨w3.heap.size, 0, none⟩) 2 2)
        simp only [List.setIfInBounds_toArray, List.set_cons_succ, List.set_cons_zero] at hgF
        have HEN := Lib.hid (show EncN w _ cs w2.heap.size w3.heap.size (tnum 2 id) t [.int .i64 x0, .bool x1, .int .i64 x2, .string x3, .slice xA xn xc] [.int .i64 y0, .bool y1, .int .i64 y2, .string y3, .slice yA yn yc] from ⟨HB1.out.trans (hbF.mono HB1.out.size), bk_below HBK1.out hbF, hgF, hoF.bk hsl4 (by first | (simp; done) | simpa using hsb), ⟨rfl, HL2.out⟩, ⟨rfl, TlAt.keep (T := fun x => x ≠ w2.heap.size ∧ x ≠ w3.heap.size) hoF.size (fun x hx hlt => hoF.block x hlt (by simpa using hx.1)) (fun x hx _ => hx) _ _ HK3.out⟩, ⟨hsb, by omega, by omega⟩⟩)
        clear hHeld hoF hbF hsl4 hk3 hsb h23 h34 ht2 ht3 hgF HL2 HK3
        go_wp2_with fail
        go_meet
        exact ⟨_, _, _, _, rfl, HEN.out⟩
    · go_simp
      refine hK.out _ _ ⟨bk_below HBK1.out (bel1 HBR.out (.cells #[.int .i64 0, .bool false, .int .i64 0, .string ⟨#[]⟩, .slice none 0 0] 38)), (bel1 HBR.out (.cells #[.int .i64 0, .bool false, .int .i64 0, .string ⟨#[]⟩, .slice none 0 0] 38))⟩ (fun hHeld2 => ?_)
      clear hK K hHeld
      have hHeld := hHeld2
      clear hHeld2
      try simp only [Act.put, List.setIfInBounds_toArray, List.set_cons_zero, List.set_cons_succ]
      refine wpAnyH_ready (rs := [2]) (by kernel_rfl) (by simp) ?_
      refine AllReadyH.cons (o := { dst := some 10, op := Op.call { callee := Callee.value (Operand.func 18), args := #[Operand.const (Value.int IntKind.i64 0), Operand.const (Value.int IntKind.i64 2), Operand.tmp 9], argTypes := #[3, 3, 3] }, type := 38, pos := "msg.go:266", after := #[{ on := 1, ground := Ground.data }], guard := none }) rfl (fun K hK => ?_) AllReadyH.nil
      go_simp
      (go_at_call 18)
      refine (HNM.out _).mono ?_
      rintro e w2 ⟨hb2, cs2, rfl, ht2⟩
      obtain ⟨x0, x1, x2, x3, xA, xn, xc, rfl⟩ := tlAt_form ht2
      have hbn2 := bel_step (W := (w1.drew.alloc (.cells #[.int .i64 0, .bool false, .int .i64 0, .string ⟨#[]⟩, .slice none 0 0] 38))) (bel1 HBR.out (.cells #[.int .i64 0, .bool false, .int .i64 0, .string ⟨#[]⟩, .slice none 0 0] 38)) hb2
      have hz2 : Bk w2 w1.heap.size 38 #[.int .i64 0, .bool false, .int .i64 0, .string ⟨#[]⟩, .slice none 0 0] := bk_below (w := (w1.drew.alloc (.cells #[.int .i64 0, .bool false, .int .i64 0, .string ⟨#[]⟩, .slice none 0 0] 38))) (Bk.new w1.drew 38 #[.int .i64 0, .bool false, .int .i64 0, .string ⟨#[]⟩, .slice none 0 0]) hb2
      go_wp2_with fail
      refine hK.out _ _ ⟨bk_below HBK1.out hbn2, hbn2⟩ (fun hHeld2 => ?_)
      clear hK K hHeld
      have hHeld := hHeld2
      clear hHeld2
      try simp only [Act.put, List.setIfInBounds_toArray, List.set_cons_zero, List.set_cons_succ]
      refine wpAnyH_ready (rs := [4]) (by kernel_rfl) (by simp) ?_
      refine AllReadyH.cons (o := { dst := some 12, op := Op.call { callee := Callee.value (Operand.func 19), args := #[Operand.tmp 11], argTypes := #[30] }, type := 38, pos := "msg.go:266", after := #[{ on := 3, ground := Ground.data }, { on := 2, ground := Ground.chain }], guard := none }) rfl (fun K hK => ?_) AllReadyH.nil
      go_simp
      (go_at_call 19)
      refine (HOP.out _ (HB1.out.trans (Below.mono hbn2 HB1.out.size))).mono ?_
      rintro e w3 ⟨hb3, cs3, rfl, ht3⟩
      obtain ⟨y0, y1, y2, y3, yA, yn, yc, rfl⟩ := tlAt_form ht3
      have hbn3 := bel_step (W := w2) hbn2 hb3
      have h23 : Below w2.heap.size w2 w3 := hb3
      have hz3 : Bk w3 w1.heap.size 38 #[.int .i64 0, .bool false, .int .i64 0, .string ⟨#[]⟩, .slice none 0 0] := bk_below (w := w2) hz2 hb3
      go_wp2_with fail
      refine hK.out _ _ ⟨bk_below HBK1.out hbn3, hbn3⟩ (fun hHeld2 => ?_)
      clear hK K hHeld
      have hHeld := hHeld2
      clear hHeld2
      try simp only [Act.put, List.setIfInBounds_toArray, List.set_cons_zero, List.set_cons_succ]
      refine wpAnyH_ready (rs := [5]) (by kernel_rfl) (by simp) ?_
      refine AllReadyH.cons (o := { dst := some 13, op := Op.buildSlice 36 2 #[(0, Operand.tmp 10), (1, Operand.tmp 12)], type := 36, pos := "msg.go:266", after := #[{ on := 2, ground := Ground.data }, { on := 4, ground := Ground.data }], guard := none }) rfl (fun K hK => ?_) AllReadyH.nil
      go_simp
      refine hK.out _ _ ⟨bk_below HBK1.out (bel1 hbn3 (.cells #[.int .i64 x0, .bool x1, .int .i64 x2, .string x3, .slice xA xn xc, .int .i64 y0, .bool y1, .int .i64 y2, .string y3, .slice yA yn yc] 38)), (bel1 hbn3 (.cells #[.int .i64 x0, .bool x1, .int .i64 x2, .string x3, .slice xA xn xc, .int .i64 y0, .bool y1, .int .i64 y2, .string y3, .slice yA yn yc] 38))⟩ (fun hHeld2 => ?_)
      clear hK K hHeld
      have hHeld := hHeld2
      clear hHeld2
      try simp only [Act.put, List.setIfInBounds_toArray, List.set_cons_zero, List.set_cons_succ]
      refine wpAnyH_ready (rs := [6]) (by kernel_rfl) (by simp) ?_
      refine AllReadyH.cons (o := { dst := some 14, op := Op.call { callee := Callee.value (Operand.func 17), args := #[Operand.tmp 13], argTypes := #[36] }, type := 38, pos := "msg.go:266", after := #[{ on := 5, ground := Ground.data }, { on := 4, ground := Ground.chain }], guard := none }) rfl (fun K hK => ?_) AllReadyH.nil
      go_simp
      (go_at_call 17)
      refine (list_t _ _ _ _).mono ?_
      rintro e w4 ⟨rfl, hb4⟩
      have hsl4 : Bk w4 w3.heap.size 38 #[.int .i64 x0, .bool x1, .int .i64 x2, .string x3, .slice xA xn xc, .int .i64 y0, .bool y1, .int .i64 y2, .string y3, .slice yA yn yc] := bk_below (w := (w3.alloc (.cells #[.int .i64 x0, .bool x1, .int .i64 x2, .string x3, .slice xA xn xc, .int .i64 y0, .bool y1, .int .i64 y2, .string y3, .slice yA yn yc] 38))) (Bk.new w3 38 #[.int .i64 x0, .bool x1, .int .i64 x2, .string x3, .slice xA xn xc, .int .i64 y0, .bool y1, .int .i64 y2, .string y3, .slice yA yn yc]) hb4
      have h34 : Below w3.heap.size w3 w4 := bel_step (W := (w3.alloc (.cells #[.int .i64 x0, .bool x1, .int .i64 x2, .string x3, .slice xA xn xc, .int .i64 y0, .bool y1, .int .i64 y2, .string y3, .slice yA yn yc] 38))) (bel1 (Below.refl _ _) _) hb4
      have hz4 : Bk w4 w1.heap.size 38 #[.int .i64 0, .bool false, .int .i64 0, .string ⟨#[]⟩, .slice none 0 0] := bk_below (w := (w3.alloc (.cells #[.int .i64 x0, .bool x1, .int .i64 x2, .string x3, .slice xA xn xc, .int .i64 y0, .bool y1, .int .i64 y2, .string y3, .slice yA yn yc] 38))) (Bk.alloc hz3 (.cells #[.int .i64 x0, .bool x1, .int .i64 x2, .string x3, .slice xA xn xc, .int .i64 y0, .bool y1, .int .i64 y2, .string y3, .slice yA yn yc] 38)) hb4
      obtain ⟨z0, z1, z2, z3, z4⟩ := hz4.five
      have g0 := hz4.frozen 0
      have g1 := hz4.frozen 1
      have g2 := hz4.frozen 2
      have g3 := hz4.frozen 3
      have g4 := hz4.frozen 4
      have gl := hz4.lt
      have hbn4 := bel_step (W := (w3.alloc (.cells #[.int .i64 x0, .bool x1, .int .i64 x2, .string x3, .slice xA xn xc, .int .i64 y0, .bool y1, .int .i64 y2, .string y3, .slice yA yn yc] 38))) (bel1 hbn3 (.cells #[.int .i64 x0, .bool x1, .int .i64 x2, .string x3, .slice xA xn xc, .int .i64 y0, .bool y1, .int .i64 y2, .string y3, .slice yA yn yc] 38)) hb4
      have hk3 : TlAt w4 (fun x => x ≠ w1.heap.size ∧ x ≠ w3.heap.size) t _ := TlAt.below h34 _ _ (TlAt.keep (T := fun x => x ≠ w1.heap.size ∧ x ≠ w3.heap.size) (Nat.le_refl _) (fun _ _ _ => rfl) (fun x hx hlt => by have hx : w2.heap.size ≤ x := hx; (try simp at hx); show x ≠ _ ∧ x ≠ _; have := h23.size; have := h34.size; have := hz2.lt; omega) _ _ ht3)
      have hsb : w3.heap.size ≠ w1.heap.size := by have := h23.size; have := h34.size; have := hz2.lt; have := hsl4.lt; omega
      have HL2 := Lib.hid (leaf_free ht2)
      have HK3 := Lib.hid hk3
      go_wp2_with fail
      refine hK.out _ _ ⟨bk_below HBK1.out hbn4, hbn4⟩ (fun hHeld2 => ?_)
      clear hK K hHeld
      have hHeld := hHeld2
      clear hHeld2
      try simp only [Act.put, List.setIfInBounds_toArray, List.set_cons_zero, List.set_cons_succ]
      refine wpAnyH_ready (rs := [8]) (by kernel_rfl) (by simp) ?_
      refine AllReadyH.cons (o := { dst := none, op := Op.store 38 (Operand.tmp 4) (Operand.tmp 14), type := 0, pos := "msg.go:266", after := #[{ on := 7, ground := Ground.data }, { on := 6, ground := Ground.data }, { on := 6, ground := Ground.chain }, { on := 0, ground := Ground.phase }, { on := 1, ground := Ground.phase }, { on := 2, ground := Ground.phase }, { on := 3, ground := Ground.phase }, { on := 4, ground := Ground.phase }, { on := 5, ground := Ground.phase }, { on := 6, ground := Ground.phase }, { on := 7, ground := Ground.phase }], guard := none }) rfl (fun K hK => ?_) AllReadyH.nil
      go_simp
      have hbF := (bel5 (b := w1.heap.size) hbn4 (by have := hbn2.size; have := hbn3.size; have := hbn4.size; omega) (.int .i64 0) (.bool true) (.int .i64 16) (.string ⟨#[]⟩) (.slice (some ⟨w3.heap.size, 0, none⟩) 2 2))
      refine hK.out _ _ ⟨bk_below HBK1.out hbF, hbF⟩ (fun hHeld2 => ?_)
      clear hK K hHeld
      have hHeld := hHeld2
      clear hHeld2
      try simp only [Act.put, List.setIfInBounds_toArray, List.set_cons_zero, List.set_cons_succ]
      refine wpAnyH_done (by kernel_rfl) ?_ _
      have hoF : Off [w1.heap.size] w4 _ := (((((Off.refl [w1.heap.size] w4).setCell (p := ⟨w1.heap.size, 0, none⟩) (.inl (by simp)) (.int .i64 0)).setCell (p := ⟨w1.heap.size, 1, none⟩) (.inl (by simp)) (.bool true)).setCell (p := ⟨w1.heap.size, 2, none⟩) (.inl (by simp)) (.int .i64 16)).setCell (p := ⟨w1.heap.size, 3, none⟩) (.inl (by simp)) (.string ⟨#[]⟩)).setCell (p := ⟨w1.heap.size, 4, none⟩) (.inl (by simp)) (.slice (some ⟨w3.heap.size, 0, none⟩) 2 2)
      have hlw1 := HBK1.out.lt
      have hsz2 := hbn2.size
      have hsz3 := hbn3.size
      have hsz4 := hbn4.size
      have hslt := hsl4.lt
      have hgF := ((((hz4.put 0 (.int .i64 0)).put 1 (.bool true)).put 2 (.int .i64 16)).put 3 (.string ⟨#[]⟩)).put 4 (.slice (some ⟨w3.heap.size, 0, none⟩) 2 2)
      simp only [List.setIfInBounds_toArray, List.set_cons_succ, List.set_cons_zero] at hgF
      have HEN := Lib.hid (show EncN w _ cs w1.heap.size w3.heap.size (tnum 2 id) t [.int .i64 x0, .bool x1, .int .i64 x2, .string x3, .slice xA xn xc] [.int .i64 y0, .bool y1, .int .i64 y2, .string y3, .slice yA yn yc] from ⟨HB1.out.trans (hbF.mono HB1.out.size), bk_below HBK1.out hbF, hgF, hoF.bk hsl4 (by first | (simp; done) | simpa using hsb), ⟨rfl, HL2.out⟩, ⟨rfl, TlAt.keep (T := fun x => x ≠ w1.heap.size ∧ x ≠ w3.heap.size) hoF.size (fun x hx hlt => hoF.block x hlt (by simpa using hx.1)) (fun x hx _ => hx) _ _ HK3.out⟩, ⟨hsb, by omega, by omega⟩⟩)
      clear hHeld hoF hbF hsl4 hk3 hsb h23 h34 ht2 ht3 hgF HL2 HK3
      go_wp2_with fail
      go_meet
      exact ⟨_, _, _, _, rfl, HEN.out⟩
  case rest =>
    obtain ⟨g, sb, xs, ys, rfl, hen⟩ := hcut
    have HEN := Lib.hid hen
    have q30 := (hen.box.cell 30).trans C30.out
    have q30l := hen.box.lt
    have e0 := hen.val.cell 0
    have e1 := hen.val.cell 1
    have e2 := hen.val.cell 2
    have e3 := hen.val.cell 3
    have e4 := hen.val.cell 4
    have elt := hen.val.lt
    have f4 := hen.val.frozen 4
    obtain ⟨n1, n2, n3⟩ := hen.ne
    clear hen
    by_cases h0 : on = 0
    · subst h0
      have HTT := Lib.hid (show TlAt wc (fun _ => True) T _ by rw [HTR.out.1 rfl]; exact HEN.out.two)
      go_wp2_with (first
        | (go_at_call 22; refine (encodeTop_any _ _ _ _ HTT.out).mono ?_; rintro e w5 ⟨hb5, rfl⟩; have HB5 := Lib.hid (HEN.out.below.trans (hb5.mono HEN.out.below.size)); clear hb5)
        | fail)
      go_ret2
      exact ⟨HB5.out, rfl⟩
    · have z1 : decide ((0 : Int) < (on : Int)) = true := decide_eq_true (by omega)
      have z2 : 0 < on := by omega
      have HNZ := Lib.hid h0
      have HOWN := Lib.hid HEN.out.own
      have hbl : sb < wc.heap.size := HEN.out.row.lt
      have hww : w.heap.size ≤ wc.heap.size := HEN.out.below.size
      have hne : ¬ (sb = g) := n1
      clear h0
      go_wp2_with fail
      go_region_law ((first
        | (go_simp; go_at_call 20; refine (HOF.out _ HEN.out.below.drew).mono ?_; rintro e w6 ⟨hb6, q6, rfl, hq6⟩; have hg6 := bk_below HEN.out.val.drew hb6; have HQ6 := Lib.hid hq6; have y1 : w6.cell? ⟨g, 4, none⟩ = some (.slice (some ⟨sb, 0, none⟩) 2 2) := hg6.cell 4; have y2 := hg6.frozen 4; have y3 := hg6.lt; have HB6 := Lib.hid hb6; have hown6 := (Off.of_below hb6 []).own (World.ownsRow.drew HOWN.out) (by simp); have hs6 := hb6.size; clear hg6)
        | (refine step_append_lies _ ?g1 (.tmp 20) (.tmp 25) 36 ?g2 w.heap.size 38 i0 _ 5 64 Tryd.underlying36 hi iz0 iz1 iz2 ?q1 ?q2 (.slice (some ⟨sb, 0, none⟩) 2 2) 2 (xs ++ ys) ?q3 (hown6.alloc _) ⟨w6.heap.size, 0, none⟩ 1 1 [.int .i64 2, .bool true, .int .i64 0, .string ⟨#[]⟩, .slice q6.A q6.n q6.c] ?q5 ?q6 ?q7 ?q8 ?q9 ?q10 ?q11 ?q12 (w6.heap.size + 1) ?q13 ?_; (case g1 => (rfl)); (case g2 => (rfl)); (case q1 => (rfl)); (case q2 => (omega)); (case q3 => (rfl)); (case q5 => (rfl)); (case q6 => (rfl)); (case q7 => (exact World.news_of_block (cs := #[.int .i64 2, .bool true, .int .i64 0, .string ⟨#[]⟩, .slice q6.A q6.n q6.c]) (heap_alloc_new w6 _))); (case q8 => (simp [Value.oneCell'])); (case q9 => (omega)); (case q10 => (unfold maxLen; omega)); (case q11 => (omega)); (case q12 => (simp at hs6 ⊢; omega)); (case q13 => (simp)); intro gg cap7 w7 hown7 hgrow7 hat7 hlt7; have hkg := two_grown ⟨(two_alloc y1 y2 y3 _).1, (two_alloc y1 y2 y3 _).2⟩ hgrow7 (by simp [Value.ownBlock]; omega) (by simp; omega); have hkg1 := hkg.1; have hkg2 := hkg.2)
        | fail))
      all_goals
        have hN := EncN.three HEN.out HB6.out (zs := [.int .i64 2, .bool true, .int .i64 0, .string ⟨#[]⟩, .slice q6.A q6.n q6.c]) rfl (kids_at 2 0 true ⟨#[]⟩ HQ6.out rfl rfl (Nat.zero_le _)) hown7 hgrow7 hat7
        have HN1 := Lib.hid hN.1
        have d0 := hN.2.1.cell 0
        have d1 := hN.2.1.cell 1
        have d2 := hN.2.1.cell 2
        have d3 := hN.2.1.cell 3
        have d4 := hN.2.1.cell 4
        have dlt := hN.2.1.lt
        have HTT := Lib.hid (show TlAt _ (fun _ => True) T _ by rw [HTR.out.2 HNZ.out]; exact hN.2.2)
        clear hN hown7 hgrow7 hat7 hkg hkg1 hkg2 hown6 y1 y2 y3 e0 e1 e2 e3 e4 elt f4 q30
        go_wp2_with (first
          | (go_at_call 22; refine (encodeTop_any _ _ _ _ HTT.out).mono ?_; rintro e w9 ⟨hb9, rfl⟩; have HB9 := Lib.hid (HN1.out.trans (hb9.mono HN1.out.size)); clear hb9)
          | fail)
        go_ret2
        exact ⟨HB9.out, rfl⟩
end Go.Proofs.YtbiglfpikfjbpaaDoor
