/- A filter: may it be? Contracts of package filter's count and Right. -/
import Derived.Test.YtbiglfpikfjbpaaDoorMsgFRight
import Derived.Test.YtbiglfpikfjbpaaDoorMsgFilter2
namespace Go.Proofs.YtbiglfpikfjbpaaDoor
open Go.RowKit
set_option maxRecDepth 100000
set_option linter.unusedVariables false
set_option linter.unusedSimpArgs false

/-- May it be, its kids apart? -/
def Fl.one : Fl → Bool
  | .mk k a v f any l kids =>
    if k = 0 ∨ k = 1 then plainB a v f any.length l 0
    else if k = 2 then plainB a v f any.length l 0 && (kids.length == 1)
    else if k = 3 ∨ k = 5 ∨ k = 6 ∨ k = 8 then plainB ⟨#[]⟩ ⟨#[]⟩ f any.length l kids.length && (fullB a && decide (a.size ≤ 64))
    else if k = 7 then plainB ⟨#[]⟩ v f any.length l kids.length && (fullB a && decide (a.size ≤ 64))
    else if k = 4 then (fullB f || (fullB l || any.any fullB)) && (decide (any.length ≤ 8) && (plainB ⟨#[]⟩ v ⟨#[]⟩ 0 ⟨#[]⟩ kids.length && (fullB a && decide (a.size ≤ 64))))
    else false
theorem Fl.one_mk (k : Int) (a v f : ByteArray) (any : List ByteArray) (l : ByteArray) (kids : List Fl) : Fl.one (.mk k a v f any l kids) = (
    if k = 0 ∨ k = 1 then plainB a v f any.length l 0
    else if k = 2 then plainB a v f any.length l 0 && (kids.length == 1)
    else if k = 3 ∨ k = 5 ∨ k = 6 ∨ k = 8 then plainB ⟨#[]⟩ ⟨#[]⟩ f any.length l kids.length && (fullB a && decide (a.size ≤ 64))
    else if k = 7 then plainB ⟨#[]⟩ v f any.length l kids.length && (fullB a && decide (a.size ≤ 64))
    else if k = 4 then (fullB f || (fullB l || any.any fullB)) && (decide (any.length ≤ 8) && (plainB ⟨#[]⟩ v ⟨#[]⟩ 0 ⟨#[]⟩ kids.length && (fullB a && decide (a.size ≤ 64))))
    else false) := rfl
theorem one_any (f : Fl) (c : List Value) (S : Nat → Prop) (w : World) (h : FlAt w S f c) : Calls Tryd.prog 84 #[.agg c.toArray] w (TellsQ f.one w) := by
  obtain ⟨k, a, v, f, any, l, kids⟩ := f
  unfold FlAt at h
  obtain ⟨⟨qA, qn, qc⟩, ⟨rA, rn, rc⟩, rfl, hz, hq, hr, -⟩ := h
  have hqn : qn = any.length := hq.1
  have hrn : rn = kids.length := hr.1
  have hcon := fun (W : World) (hb : Below w.heap.size w W) => contains_any ⟨qA, qn, qc⟩ any S W (hq.keep strAt_stable hb.size (fun x _ hlt => hb.block x hlt) (fun _ h _ => h))
  rw [Fl.one_mk]
  subst hqn hrn
  by_cases h0 : k = 0
  · subst h0; rw [if_pos (by omega)]; exact one_0 a v f qA any.length qc l rA kids.length rc w
  by_cases h1 : k = 1
  · subst h1; rw [if_pos (by omega)]; exact one_1 a v f qA any.length qc l rA kids.length rc w
  rw [if_neg (by omega)]
  by_cases h2 : k = 2
  · subst h2; rw [if_pos rfl]; exact one_2 a v f qA any.length qc l rA kids.length rc w
  rw [if_neg h2]
  by_cases h3 : k = 3
  · subst h3; rw [if_pos (by omega)]; exact one_3 a v f qA any.length qc l rA kids.length rc w
  by_cases h5 : k = 5
  · subst h5; rw [if_pos (by omega)]; exact one_5 a v f qA any.length qc l rA kids.length rc w
  by_cases h6 : k = 6
  · subst h6; rw [if_pos (by omega)]; exact one_6 a v f qA any.length qc l rA kids.length rc w
  by_cases h8 : k = 8
  · subst h8; rw [if_pos (by omega)]; exact one_8 a v f qA any.length qc l rA kids.length rc w
  rw [if_neg (by omega)]
  by_cases h7 : k = 7
  · subst h7; rw [if_pos rfl]; exact one_7 a v f qA any.length qc l rA kids.length rc w
  rw [if_neg h7]
  by_cases h4 : k = 4
  · subst h4; rw [if_pos rfl]; exact one_4 a v f qA any.length qc l rA kids.length rc w _ hcon
  rw [if_neg h4]
  exact one_far k a v f qA any.length qc l rA kids.length rc w (by omega)

mutual
/-- How many filters are left. -/
def Fl.cnt : Fl → Int → Int → Int
  | .mk k a v f any l kids, d, x => if x - 1 < 0 ∨ 8 < d ∨ Fl.one (.mk k a v f any l kids) = false then -1 else Fl.cnts kids (d + 1) (x - 1)
def Fl.cnts : List Fl → Int → Int → Int
  | [], _, x => x
  | k :: ks, d, x => if k.cnt d x < 0 then -1 else Fl.cnts ks d (k.cnt d x)
end
mutual
theorem Fl.cnt_le : ∀ (f : Fl) (d x : Int), -1 ≤ x → f.cnt d x ≤ x ∧ -1 ≤ f.cnt d x
  | .mk k a v f any l kids, d, x, hx => by
    unfold Fl.cnt
    by_cases h : x - 1 < 0 ∨ 8 < d ∨ Fl.one (.mk k a v f any l kids) = false
    · rw [if_pos h]; omega
    · rw [if_neg h]
      have := Fl.cnts_le kids (d + 1) (x - 1) (by omega)
      omega
theorem Fl.cnts_le : ∀ (ks : List Fl) (d x : Int), -1 ≤ x → Fl.cnts ks d x ≤ x ∧ -1 ≤ Fl.cnts ks d x
  | [], d, x, hx => by unfold Fl.cnts; omega
  | k :: ks, d, x, hx => by
    unfold Fl.cnts
    have h1 := Fl.cnt_le k d x hx
    by_cases h : k.cnt d x < 0
    · rw [if_pos h]; omega
    · rw [if_neg h]
      have := Fl.cnts_le ks d (k.cnt d x) h1.2
      omega
end
theorem Fl.cnts_drop {ks : List Fl} {d x : Int} {j : Nat} (h : j < ks.length) : Fl.cnts (ks.drop j) d x = if ks[j].cnt d x < 0 then -1 else Fl.cnts (ks.drop (j + 1)) d (ks[j].cnt d x) := by
  rw [List.drop_eq_getElem_cons h, Fl.cnts]

set_option maxHeartbeats 4000000 in
theorem count_no (f : Fl) (c : List Value) (S : Nat → Prop) (d x : Int) (w : World) (h : FlAt w S f c) (hd : 0 ≤ d ∧ d ≤ 9) (hx : -1 ≤ x ∧ x ≤ 40) (hn : x - 1 < 0 ∨ 8 < d ∨ f.one = false) :
    Calls Tryd.prog 79 #[.agg c.toArray, .int .i64 d, .int .i64 x] w (TellsI (-1) w) := by
  obtain ⟨y0, y1, y2, y3, y5, yA, yn, yc, zA, zn, zc, rfl⟩ := flAt_form h
  have hb := (Below.refl w.heap.size w).alloc (Nat.le_refl _) (.cells #[.int .i64 y0, .string y1, .string y2, .string y3, .slice yA yn yc, .string y5, .slice zA zn zc] 25)
  have HB := Lib.hid hb
  obtain ⟨hd1, hd2⟩ := hd
  obtain ⟨hx1, hx2⟩ := hx
  by_cases hx0 : x - 1 < 0
  · have z1 : decide (x - 1 < 0) = true := decide_eq_true hx0
    have z2 : decide (x < 1) = true := decide_eq_true (by omega)
    clear hn h hb
    go_enter Tryd.func79, Tryd.ntmps79
    go_wp2_with fail
    go_ret
    exact tellsI_of rfl HB.out
  by_cases hd0 : 8 < d
  · have z1 : decide (x - 1 < 0) = false := decide_eq_false hx0
    have z2 : decide (x < 1) = false := decide_eq_false (by omega)
    have z3 : decide (8 < d) = true := decide_eq_true hd0
    clear hn h hb
    go_enter Tryd.func79, Tryd.ntmps79
    go_wp2_with fail
    go_ret
    exact tellsI_of rfl HB.out
  have z1 : decide (x - 1 < 0) = false := decide_eq_false hx0
  have z2 : decide (x < 1) = false := decide_eq_false (by omega)
  have z3 : decide (8 < d) = false := decide_eq_false hd0
  have ho : f.one = false := by rcases hn with h | h | h; exact absurd h hx0; exact absurd h hd0; exact h
  have HO := Lib.hid (show Calls Tryd.prog 84 #[.agg #[.int .i64 y0, .string y1, .string y2, .string y3, .slice yA yn yc, .string y5, .slice zA zn zc]] _ (TellsQ false _) by
    have := one_any f _ S _ (FlAt.keep (T := S) hb.size (fun x _ hlt => hb.block x hlt) (fun _ h _ => h) _ _ h); rwa [ho] at this)
  clear hn h hb ho
  go_enter Tryd.func79, Tryd.ntmps79
  go_wp2_with fail
  (go_at_call 84)
  refine HO.out.mono ?_
  rintro e w1 ⟨rfl, hb1⟩
  have HB1 := Lib.hid (HB.out.trans (hb1.mono HB.out.size))
  clear hb1
  go_wp2_with fail
  go_ret
  exact tellsI_of rfl HB1.out
set_option maxHeartbeats 4000000 in
theorem count_yes (k : Int) (a v f : ByteArray) (any : List ByteArray) (l : ByteArray) (kids : List Fl) (c : List Value) (S : Nat → Prop) (d x : Int) (w : World) (h : FlAt w S (.mk k a v f any l kids) c) (hd : 0 ≤ d ∧ d ≤ 8) (hx : 1 ≤ x ∧ x ≤ 40) (hone : Fl.one (.mk k a v f any l kids) = true)
    (ih : ∀ y ∈ kids, ∀ (c : List Value) (S : Nat → Prop) (d x : Int) (w : World), FlAt w S y c → 0 ≤ d ∧ d ≤ 9 → -1 ≤ x ∧ x ≤ 40 → Calls Tryd.prog 79 #[.agg c.toArray, .int .i64 d, .int .i64 x] w (TellsI (y.cnt d x) w)) :
    Calls Tryd.prog 79 #[.agg c.toArray, .int .i64 d, .int .i64 x] w (TellsI (Fl.cnts kids (d + 1) (x - 1)) w) := by
  have hfl := h
  unfold FlAt at h
  obtain ⟨⟨qA, qn, qc⟩, ⟨rA, rn, rc⟩, rfl, hz, hq, ⟨hr1, hr2, hr3⟩, hks⟩ := h
  simp only at hr1 hr2 hr3 hks hfl ⊢
  subst hr1
  have hb := (Below.refl w.heap.size w).alloc (Nat.le_refl _) (.cells #[.int .i64 k, .string a, .string v, .string f, .slice qA qn qc, .string l, .slice rA kids.length rc] 25)
  have HB := Lib.hid hb
  have HBX := Lib.hid (Bk.new w 25 #[.int .i64 k, .string a, .string v, .string f, .slice qA qn qc, .string l, .slice rA kids.length rc])
  obtain ⟨hd1, hd2⟩ := hd
  obtain ⟨hx1, hx2⟩ := hx
  have z1 : decide (x - 1 < 0) = false := decide_eq_false (by omega)
  have z2 : decide (x < 1) = false := decide_eq_false (by omega)
  have z3 : decide (8 < d) = false := decide_eq_false (by omega)
  have hrm : rc ≤ 9223372036854775807 := by unfold maxLen at hr3; omega
  have HO := Lib.hid (show Calls Tryd.prog 84 #[.agg #[.int .i64 k, .string a, .string v, .string f, .slice qA qn qc, .string l, .slice rA kids.length rc]] _ (TellsQ true _) by
    have := one_any _ _ S _ (FlAt.keep (T := S) hb.size (fun x _ hlt => hb.block x hlt) (fun _ h _ => h) _ _ hfl); rwa [hone] at this)
  have HK := Lib.hid hks
  have IH := Lib.hid ih
  clear hfl hb hone hz hq hr3 hks ih
  go_enter Tryd.func79, Tryd.ntmps79
  go_wp2_with fail
  (go_at_call 84)
  refine HO.out.mono ?_
  rintro e w1 ⟨rfl, hb1⟩
  have hbx := bk_below HBX.out hb1
  have e6 : w1.cell? ⟨w.heap.size, 6, none⟩ = some (.slice rA kids.length rc) := hbx.cell 6
  have HB1 := Lib.hid (HB.out.trans (hb1.mono HB.out.size))
  have hs1 : w.heap.size < w1.heap.size := hbx.lt
  clear hb1 hbx HO
  go_wp2_with fail
  go_loopw [2, 25] (fun lf i wr => ∃ (j : Nat) (y : Int), i = .int .i64 j ∧ lf = .int .i64 y ∧ j ≤ kids.length ∧ 0 ≤ y ∧ y ≤ 40 ∧ Hid (Fl.cnts kids (d + 1) (x - 1) = Fl.cnts (kids.drop j) (d + 1) y) ∧ Below w.heap.size w wr) (fun _ i _ => kids.length - (intOf i).toNat)
  case atStart => exact ⟨0, x - 1, rfl, rfl, Nat.zero_le _, by omega, by omega, rfl, HB1.out⟩
  case round =>
    obtain ⟨j, y, rfl, rfl, hj, hy1, hy2, HT, hbw⟩ := hrel
    have HBW := Lib.hid hbw
    by_cases hlt : j < kids.length
    · obtain ⟨b, o, c, rfl, hS, hc1, hcl, hfk⟩ := HK.out.get j kids[j] (List.getElem?_eq_getElem hlt)
      rw [Nat.zero_add] at hcl
      obtain ⟨y0, y1, y2, y3, y5, yA, yn, yc, zA, zn, zc, rfl⟩ := flAt_form hfk
      have hbl : b < w.heap.size := hS.2
      have hcw : ∀ o', wr.cell? ⟨b, o', none⟩ = w.cell? ⟨b, o', none⟩ := fun o' => hbw.cell (p := ⟨b, o', none⟩) hbl
      have q0 : wr.cell? ⟨b, o + j * 7, none⟩ = some (.int .i64 y0) := (hcw _).trans (hcl 0 _ rfl)
      have q1 : wr.cell? ⟨b, o + j * 7 + 1, none⟩ = some (.string y1) := (hcw _).trans (hcl 1 _ rfl)
      have q2 : wr.cell? ⟨b, o + j * 7 + 2, none⟩ = some (.string y2) := (hcw _).trans (hcl 2 _ rfl)
      have q3 : wr.cell? ⟨b, o + j * 7 + 3, none⟩ = some (.string y3) := (hcw _).trans (hcl 3 _ rfl)
      have q4 : wr.cell? ⟨b, o + j * 7 + 4, none⟩ = some (.slice yA yn yc) := (hcw _).trans (hcl 4 _ rfl)
      have q5 : wr.cell? ⟨b, o + j * 7 + 5, none⟩ = some (.string y5) := (hcw _).trans (hcl 5 _ rfl)
      have q6 : wr.cell? ⟨b, o + j * 7 + 6, none⟩ = some (.slice zA zn zc) := (hcw _).trans (hcl 6 _ rfl)
      have hba := (Below.refl wr.heap.size wr).alloc (Nat.le_refl _) (.cells #[.int .i64 y0, .string y1, .string y2, .string y3, .slice yA yn yc, .string y5, .slice zA zn zc] 25)
      have hball := hbw.trans (hba.mono hbw.size)
      have HC := Lib.hid (IH.out kids[j] (List.getElem_mem hlt) _ S (d + 1) y _ (FlAt.keep (T := S) hball.size (fun x _ hlt => hball.block x hlt) (fun _ h _ => h) _ _ hfk) (by omega) (by omega))
      have HDR := Lib.hid (Fl.cnts_drop (d := d + 1) (x := y) hlt)
      have hle := Fl.cnt_le kids[j] (d + 1) y (by omega)
      obtain ⟨n, hn⟩ : ∃ n, n = kids[j].cnt (d + 1) y := ⟨_, rfl⟩
      rw [← hn] at HC HDR hle
      obtain ⟨hle1, hle2⟩ := hle
      have z4 : decide (j < kids.length) = true := decide_eq_true hlt
      have HBA := Lib.hid hball
      have hbr : b < wr.heap.size := Nat.lt_of_lt_of_le hbl hbw.size
      clear hn hS hc1 hcl hfk hcw hba hball hbw
      go_wp2_with fail
      (go_at_call 79)
      refine HC.out.mono ?_
      rintro e w2 ⟨rfl, hb2⟩
      have HB2 := Lib.hid (HBA.out.trans (hb2.mono HBA.out.size))
      clear hb2 HC
      by_cases hneg : n < 0
      · have z5 : decide (n < 0) = true := decide_eq_true hneg
        have HNG := Lib.hid hneg
        clear hneg
        go_wp2_with fail
        go_ret
        exact tellsI_of (by rw [HT.out, HDR.out, if_pos HNG.out]) HB2.out
      · have z5 : decide (n < 0) = false := decide_eq_false hneg
        have HNG := Lib.hid (show 0 ≤ n by omega)
        clear hneg
        go_wp2_with fail
        go_roundw
        case rel => exact ⟨j + 1, n, by go_num, rfl, by omega, HNG.out, by omega, show _ = _ by rw [HT.out, HDR.out, if_neg (by have := HNG.out; omega)], HB2.out⟩
        case measure => simp [intOf]; omega
    · obtain rfl : j = kids.length := by omega
      have z4 : decide (kids.length < kids.length) = false := by simp
      clear hbw
      go_wp2_with fail
      go_ret
      exact tellsI_of (by rw [HT.out, List.drop_length]; simp [Fl.cnts]) HBW.out
mutual
theorem count_any : ∀ (f : Fl) (c : List Value) (S : Nat → Prop) (d x : Int) (w : World), FlAt w S f c → 0 ≤ d ∧ d ≤ 9 → -1 ≤ x ∧ x ≤ 40 → Calls Tryd.prog 79 #[.agg c.toArray, .int .i64 d, .int .i64 x] w (TellsI (f.cnt d x) w)
  | .mk k a v f any l kids, c, S, d, x, w, h, hd, hx => by
    have ih := counts_any kids
    unfold Fl.cnt
    by_cases hn : x - 1 < 0 ∨ 8 < d ∨ Fl.one (.mk k a v f any l kids) = false
    · rw [if_pos hn]
      exact count_no _ c S d x w h hd hx hn
    · rw [if_neg hn]
      exact count_yes k a v f any l kids c S d x w h (by omega) (by omega) (by cases ho : Fl.one (.mk k a v f any l kids) with | true => rfl | false => exact absurd (.inr (.inr ho)) hn) ih
theorem counts_any : ∀ (ks : List Fl), ∀ y ∈ ks, ∀ (c : List Value) (S : Nat → Prop) (d x : Int) (w : World), FlAt w S y c → 0 ≤ d ∧ d ≤ 9 → -1 ≤ x ∧ x ≤ 40 → Calls Tryd.prog 79 #[.agg c.toArray, .int .i64 d, .int .i64 x] w (TellsI (y.cnt d x) w)
  | [], y, h => by simp at h
  | k :: ks, y, h => fun c S d x w hf hd hx => by
    have h1 := count_any k
    have h2 := counts_any ks
    rcases List.mem_cons.1 h with rfl | h
    · exact h1 c S d x w hf hd hx
    · exact h2 y h c S d x w hf hd hx
end
/-- May a filter be? -/
def Fl.right (f : Fl) : Bool := decide (0 ≤ f.cnt 1 40)
theorem fright_any (f : Fl) (c : List Value) (S : Nat → Prop) (w : World) (h : FlAt w S f c) : Calls Tryd.prog 55 #[.agg c.toArray] w (TellsQ f.right w) := by
  obtain ⟨y0, y1, y2, y3, y5, yA, yn, yc, zA, zn, zc, rfl⟩ := flAt_form h
  have hb := (Below.refl w.heap.size w).alloc (Nat.le_refl _) (.cells #[.int .i64 y0, .string y1, .string y2, .string y3, .slice yA yn yc, .string y5, .slice zA zn zc] 25)
  have HB := Lib.hid hb
  have HC := Lib.hid (count_any f _ S 1 40 _ (FlAt.keep (T := S) hb.size (fun x _ hlt => hb.block x hlt) (fun _ h _ => h) _ _ h) (by omega) (by omega))
  unfold Fl.right
  obtain ⟨n, hn⟩ : ∃ n, n = f.cnt 1 40 := ⟨_, rfl⟩
  rw [← hn] at HC ⊢
  clear h hb hn
  go_enter Tryd.func55, Tryd.ntmps55
  go_wp2_with fail
  (go_at_call 79)
  refine HC.out.mono ?_
  rintro e w1 ⟨rfl, hb1⟩
  have HB1 := Lib.hid (HB.out.trans (hb1.mono HB.out.size))
  clear hb1 HC
  go_wp2_with fail
  go_ret
  exact tellsQ_of rfl HB1.out
end Go.Proofs.YtbiglfpikfjbpaaDoor
