/- A filter: may it be? Contracts of package filter's plain, rightOne, count, Right. -/
import Derived.Test.YtbiglfpikfjbpaaDoorMsgEmpty
import Derived.Test.YtbiglfpikfjbpaaDoorMsgBare
import Derived.Test.YtbiglfpikfjbpaaDoorMsgData
namespace Go.Proofs.YtbiglfpikfjbpaaDoor
open Go.RowKit
set_option maxRecDepth 100000
set_option linter.unusedVariables false
set_option linter.unusedSimpArgs false

theorem full_yes {s : ByteArray} (h : fullB s = true) : s.toList.isEmpty = false := by unfold fullB at h; simpa using h
theorem full_no {s : ByteArray} (h : fullB s = false) : s.toList.isEmpty = true ∧ s.toList = [] := by unfold fullB at h; simp at h; simp [h]
theorem num_yes {n : Nat} (h : (n != 0) = true) : ((n : Int) == 0) = false := by simp at h ⊢; omega
theorem num_yes2 {n : Nat} (h : (n != 0) = true) : (n == 0) = false := by simpa using h
theorem num_no {n : Nat} (h : (n != 0) = false) : n = 0 := by simpa using h
/-- No fields but those that are left. -/
def plainB (a v f : ByteArray) (q : Nat) (l : ByteArray) (r : Nat) : Bool := !(fullB a || (fullB v || (fullB f || (q != 0 || (fullB l || r != 0)))))
set_option maxHeartbeats 4000000 in
theorem plain_any (k : Int) (a v f : ByteArray) (qA : Option Addr) (qn qc : Nat) (l : ByteArray) (rA : Option Addr) (rn rc : Nat) (w : World) :
    Calls Tryd.prog 89 #[.agg #[.int .i64 k, .string a, .string v, .string f, .slice qA qn qc, .string l, .slice rA rn rc]] w (TellsQ (plainB a v f qn l rn) w) := by
  obtain ⟨p, hp⟩ : ∃ p, p = plainB a v f qn l rn := ⟨_, rfl⟩
  rw [← hp]
  unfold plainB at hp
  rcases or6 (fullB a) (fullB v) (fullB f) (qn != 0) (fullB l) (rn != 0) with h_a | ⟨h_a, h_v⟩ | ⟨h_a, h_v, h_f⟩ | ⟨h_a, h_v, h_f, h_qn⟩ | ⟨h_a, h_v, h_f, h_qn, h_l⟩ | ⟨h_a, h_v, h_f, h_qn, h_l, h_rn⟩ | ⟨h_a, h_v, h_f, h_qn, h_l, h_rn⟩
  · have HP := Lib.hid (show p = false by rw [hp, h_a]; rfl)
    have e_a : a.toList.isEmpty = false := full_yes h_a
    have e1_a : (!a.toList.isEmpty) = true := h_a
    clear hp h_a
    go_enter Tryd.func89, Tryd.ntmps89
    go_wp2_with fail
    go_ret
    exact tellsQ_of HP.out ((Below.refl _ w).alloc (Nat.le_refl _) _)
  · have HP := Lib.hid (show p = false by rw [hp, h_a, h_v]; rfl)
    have e_a : a.toList.isEmpty = true := (full_no h_a).1
    have e2_a : a.toList = [] := (full_no h_a).2
    have e1_a : (!a.toList.isEmpty) = false := h_a
    have e_v : v.toList.isEmpty = false := full_yes h_v
    have e1_v : (!v.toList.isEmpty) = true := h_v
    clear hp h_a h_v
    go_enter Tryd.func89, Tryd.ntmps89
    go_wp2_with fail
    go_ret
    exact tellsQ_of HP.out ((Below.refl _ w).alloc (Nat.le_refl _) _)
  · have HP := Lib.hid (show p = false by rw [hp, h_a, h_v, h_f]; rfl)
    have e_a : a.toList.isEmpty = true := (full_no h_a).1
    have e2_a : a.toList = [] := (full_no h_a).2
    have e1_a : (!a.toList.isEmpty) = false := h_a
    have e_v : v.toList.isEmpty = true := (full_no h_v).1
    have e2_v : v.toList = [] := (full_no h_v).2
    have e1_v : (!v.toList.isEmpty) = false := h_v
    have e_f : f.toList.isEmpty = false := full_yes h_f
    have e1_f : (!f.toList.isEmpty) = true := h_f
    clear hp h_a h_v h_f
    go_enter Tryd.func89, Tryd.ntmps89
    go_wp2_with fail
    go_ret
    exact tellsQ_of HP.out ((Below.refl _ w).alloc (Nat.le_refl _) _)
  · have HP := Lib.hid (show p = false by rw [hp, h_a, h_v, h_f, h_qn]; rfl)
    have e_a : a.toList.isEmpty = true := (full_no h_a).1
    have e2_a : a.toList = [] := (full_no h_a).2
    have e1_a : (!a.toList.isEmpty) = false := h_a
    have e_v : v.toList.isEmpty = true := (full_no h_v).1
    have e2_v : v.toList = [] := (full_no h_v).2
    have e1_v : (!v.toList.isEmpty) = false := h_v
    have e_f : f.toList.isEmpty = true := (full_no h_f).1
    have e2_f : f.toList = [] := (full_no h_f).2
    have e1_f : (!f.toList.isEmpty) = false := h_f
    have e_qn : ((qn : Int) == 0) = false := num_yes h_qn
    have e3_qn : (qn == 0) = false := num_yes2 h_qn
    clear hp h_a h_v h_f h_qn
    go_enter Tryd.func89, Tryd.ntmps89
    go_wp2_with fail
    go_ret
    exact tellsQ_of HP.out ((Below.refl _ w).alloc (Nat.le_refl _) _)
  · have HP := Lib.hid (show p = false by rw [hp, h_a, h_v, h_f, h_qn, h_l]; rfl)
    have e_a : a.toList.isEmpty = true := (full_no h_a).1
    have e2_a : a.toList = [] := (full_no h_a).2
    have e1_a : (!a.toList.isEmpty) = false := h_a
    have e_v : v.toList.isEmpty = true := (full_no h_v).1
    have e2_v : v.toList = [] := (full_no h_v).2
    have e1_v : (!v.toList.isEmpty) = false := h_v
    have e_f : f.toList.isEmpty = true := (full_no h_f).1
    have e2_f : f.toList = [] := (full_no h_f).2
    have e1_f : (!f.toList.isEmpty) = false := h_f
    obtain rfl : qn = 0 := num_no h_qn
    have e_l : l.toList.isEmpty = false := full_yes h_l
    have e1_l : (!l.toList.isEmpty) = true := h_l
    clear hp h_a h_v h_f h_qn h_l
    go_enter Tryd.func89, Tryd.ntmps89
    go_wp2_with fail
    go_ret
    exact tellsQ_of HP.out ((Below.refl _ w).alloc (Nat.le_refl _) _)
  · have HP := Lib.hid (show p = false by rw [hp, h_a, h_v, h_f, h_qn, h_l, h_rn]; rfl)
    have e_a : a.toList.isEmpty = true := (full_no h_a).1
    have e2_a : a.toList = [] := (full_no h_a).2
    have e1_a : (!a.toList.isEmpty) = false := h_a
    have e_v : v.toList.isEmpty = true := (full_no h_v).1
    have e2_v : v.toList = [] := (full_no h_v).2
    have e1_v : (!v.toList.isEmpty) = false := h_v
    have e_f : f.toList.isEmpty = true := (full_no h_f).1
    have e2_f : f.toList = [] := (full_no h_f).2
    have e1_f : (!f.toList.isEmpty) = false := h_f
    obtain rfl : qn = 0 := num_no h_qn
    have e_l : l.toList.isEmpty = true := (full_no h_l).1
    have e2_l : l.toList = [] := (full_no h_l).2
    have e1_l : (!l.toList.isEmpty) = false := h_l
    have e_rn : ((rn : Int) == 0) = false := num_yes h_rn
    have e3_rn : (rn == 0) = false := num_yes2 h_rn
    clear hp h_a h_v h_f h_qn h_l h_rn
    go_enter Tryd.func89, Tryd.ntmps89
    go_wp2_with fail
    go_ret
    exact tellsQ_of HP.out ((Below.refl _ w).alloc (Nat.le_refl _) _)
  · have HP := Lib.hid (show p = true by rw [hp, h_a, h_v, h_f, h_qn, h_l, h_rn]; rfl)
    have e_a : a.toList.isEmpty = true := (full_no h_a).1
    have e2_a : a.toList = [] := (full_no h_a).2
    have e1_a : (!a.toList.isEmpty) = false := h_a
    have e_v : v.toList.isEmpty = true := (full_no h_v).1
    have e2_v : v.toList = [] := (full_no h_v).2
    have e1_v : (!v.toList.isEmpty) = false := h_v
    have e_f : f.toList.isEmpty = true := (full_no h_f).1
    have e2_f : f.toList = [] := (full_no h_f).2
    have e1_f : (!f.toList.isEmpty) = false := h_f
    obtain rfl : qn = 0 := num_no h_qn
    have e_l : l.toList.isEmpty = true := (full_no h_l).1
    have e2_l : l.toList = [] := (full_no h_l).2
    have e1_l : (!l.toList.isEmpty) = false := h_l
    obtain rfl : rn = 0 := num_no h_rn
    clear hp h_a h_v h_f h_qn h_l h_rn
    go_enter Tryd.func89, Tryd.ntmps89
    go_wp2_with fail
    go_ret
    exact tellsQ_of HP.out ((Below.refl _ w).alloc (Nat.le_refl _) _)

theorem full_fn (s : ByteArray) (w : World) : Calls Tryd.prog 91 #[.string s] w (TellsT (fullB s) w) := by
  cases h : fullB s with
  | true =>
    have h1 : (!s.toList.isEmpty) = true := h
    have h2 := full_yes h
    clear h
    go_enter Tryd.func91, Tryd.ntmps91
    go_wp2_with fail
    go_ret
    exact ⟨rfl, rfl⟩
  | false =>
    have h1 : (!s.toList.isEmpty) = false := h
    have h2 := (full_no h).1
    have h3 := (full_no h).2
    clear h
    go_enter Tryd.func91, Tryd.ntmps91
    go_wp2_with fail
    go_ret
    exact ⟨rfl, rfl⟩
theorem any_take_succ {α : Type} (p : α → Bool) (l : List α) (k : Nat) (h : k < l.length) : (l.take (k + 1)).any p = ((l.take k).any p || p l[k]) := by
  rw [List.take_succ_eq_append_getElem h, List.any_append]
  simp
/-- Where is the first one that is full? -/
def FoundAt (q : Bool) (w : World) (e : Ending) (w' : World) : Prop := ∃ n : Int, e = .returned (.int .i64 n) ∧ decide (0 ≤ n) = q ∧ w = w'
set_option maxHeartbeats 1000000 in
theorem index_any (q : Rw) (ss : List ByteArray) (S : Nat → Prop) (w : World) (h : SRow w S q ss) :
    Calls Tryd.prog 92 #[.slice q.A q.n q.c, .func (.func 91) #[] #[]] w (FoundAt (ss.any fullB) w) := by
  obtain ⟨qA, qn, qc⟩ := q
  obtain ⟨h1, h2, h3, h4⟩ := h
  simp only at h1 h2 h3 h4 ⊢
  subst h1
  have H4 := Lib.hid h4
  have hc : qc ≤ 9223372036854775807 := by unfold maxLen at h3; omega
  clear h3 h4
  go_enter Tryd.func92, Tryd.ntmps92
  go_wp2_with fail
  go_loop [8] (fun i => ∃ k : Nat, i = .int .i64 k ∧ k ≤ ss.length ∧ Hid ((ss.take k).any fullB = false)) (fun i => ss.length - (intOf i).toNat)
  case atStart => exact ⟨0, rfl, Nat.zero_le _, rfl⟩
  case round =>
    obtain ⟨k, rfl, hk, HT⟩ := hrel
    by_cases hlt : k < ss.length
    · obtain ⟨b, o, c, rfl, hS, hc1, hcl, hs⟩ := H4.out k ss[k] (List.getElem?_eq_getElem hlt)
      obtain ⟨rfl, hsz⟩ := hs
      have q0 : w.cell? ⟨b, o + k, none⟩ = some (.string ss[k]) := by have := hcl 0 _ rfl; simpa using this
      have z1 : decide (k < ss.length) = true := decide_eq_true hlt
      have HAS := Lib.hid (any_take_succ fullB ss k hlt)
      obtain ⟨x, hx⟩ : ∃ x, x = ss[k] := ⟨_, rfl⟩
      rw [← hx] at q0 HAS
      have HX := Lib.hid hx
      clear hS hc1 hcl hsz hx
      go_wp2_with fail
      (go_at_call 91)
      refine (full_fn x _).mono ?_
      cases hf : fullB x with
      | true =>
        rintro e w1 ⟨rfl, rfl⟩
        have HFT := Lib.hid hf
        clear hf
        go_wp2_with fail
        go_ret
        refine ⟨k, rfl, ?_, rfl⟩
        have ha : (ss.take (k + 1)).any fullB = true := by rw [HAS.out, HFT.out]; simp
        have hb : ss.any fullB = true := by
          rw [List.any_eq_true] at ha ⊢
          obtain ⟨y, hy, hp⟩ := ha
          exact ⟨y, List.mem_of_mem_take hy, hp⟩
        rw [hb]
        simp
      | false =>
        rintro e w1 ⟨rfl, rfl⟩
        have HFT := Lib.hid hf
        clear hf
        go_wp2_with fail
        go_round
        case rel => exact ⟨k + 1, by go_num, by omega, show _ = _ by rw [HAS.out, HT.out, HFT.out]; rfl⟩
        case measure => simp [intOf]; omega
    · obtain rfl : k = ss.length := by omega
      have z1 : decide (ss.length < ss.length) = false := by simp
      go_wp2_with fail
      go_ret
      have hb : ss.any fullB = false := by have := HT.out; rwa [List.take_length] at this
      exact ⟨-1, rfl, by rw [hb]; rfl, rfl⟩
theorem contains_any (q : Rw) (ss : List ByteArray) (S : Nat → Prop) (w : World) (h : SRow w S q ss) :
    Calls Tryd.prog 90 #[.slice q.A q.n q.c, .func (.func 91) #[] #[]] w (TellsT (ss.any fullB) w) := by
  have H := Lib.hid (index_any q ss S w h)
  obtain ⟨b, hb⟩ : ∃ b, b = ss.any fullB := ⟨_, rfl⟩
  rw [← hb] at H ⊢
  clear h hb
  go_enter Tryd.func90, Tryd.ntmps90
  go_wp2_with fail
  (go_at_call 92)
  refine H.out.mono ?_
  rintro e w1 ⟨n, rfl, hn, rfl⟩
  cases b with
  | true =>
    have h1 : decide (0 ≤ n) = true := hn
    clear hn
    go_wp2_with fail
    go_ret
    exact ⟨rfl, rfl⟩
  | false =>
    have h1 : decide (0 ≤ n) = false := hn
    clear hn
    go_wp2_with fail
    go_ret
    exact ⟨rfl, rfl⟩
set_option maxHeartbeats 4000000 in
theorem one_0 (a v f : ByteArray) (qA : Option Addr) (qn qc : Nat) (l : ByteArray) (rA : Option Addr) (rn rc : Nat) (w : World) :
    Calls Tryd.prog 84 #[.agg #[.int .i64 0, .string a, .string v, .string f, .slice qA qn qc, .string l, .slice rA rn rc]] w (TellsQ (plainB a v f qn l 0) w) := by
  have H := Lib.hid (fun W => plain_any 0 a v f qA qn qc l none 0 0 W)
  obtain ⟨p, hp⟩ : ∃ p, p = plainB a v f qn l 0 := ⟨_, rfl⟩
  rw [← hp] at H ⊢
  have hbf := (Bk.new w 25 #[.int .i64 0, .string a, .string v, .string f, .slice qA qn qc, .string l, .slice rA rn rc]).alloc (.cells #[.int .i64 0, .string a, .string v, .string f, .slice qA qn qc, .string l, .slice none 0 0] 25)
  have HBF := Lib.hid hbf
  have HW := Lib.hid (((Below.refl _ w).alloc (Nat.le_refl _) (.cells #[.int .i64 0, .string a, .string v, .string f, .slice qA qn qc, .string l, .slice rA rn rc] 25)).alloc (by simp) (.cells #[.int .i64 0, .string a, .string v, .string f, .slice qA qn qc, .string l, .slice none 0 0] 25))
  clear hp hbf
  go_enter Tryd.func84, Tryd.ntmps84
  go_wp2_with fail
  (go_at_call 89)
  refine (H.out _).mono ?_
  rintro e w1 ⟨rfl, hb1⟩
  have hb2 := bk_below HBF.out hb1
  have e0 : w1.cell? ⟨w.heap.size, 0, none⟩ = some (.int .i64 0) := hb2.cell 0
  have e1 : w1.cell? ⟨w.heap.size, 1, none⟩ = some (.string a) := hb2.cell 1
  have e6 : w1.cell? ⟨w.heap.size, 6, none⟩ = some (.slice rA rn rc) := hb2.cell 6
  have HE := Lib.hid (HW.out.trans (hb1.mono HW.out.size))
  clear hb1 hb2 HBF HW H
  cases p with
  | false =>
    go_wp2_with fail
    go_ret
    exact tellsQ_of (by simp) HE.out
  | true =>
    go_wp2_with fail
    go_ret
    exact tellsQ_of (by simp) HE.out
set_option maxHeartbeats 4000000 in
theorem one_1 (a v f : ByteArray) (qA : Option Addr) (qn qc : Nat) (l : ByteArray) (rA : Option Addr) (rn rc : Nat) (w : World) :
    Calls Tryd.prog 84 #[.agg #[.int .i64 1, .string a, .string v, .string f, .slice qA qn qc, .string l, .slice rA rn rc]] w (TellsQ (plainB a v f qn l 0) w) := by
  have H := Lib.hid (fun W => plain_any 1 a v f qA qn qc l none 0 0 W)
  obtain ⟨p, hp⟩ : ∃ p, p = plainB a v f qn l 0 := ⟨_, rfl⟩
  rw [← hp] at H ⊢
  have hbf := (Bk.new w 25 #[.int .i64 1, .string a, .string v, .string f, .slice qA qn qc, .string l, .slice rA rn rc]).alloc (.cells #[.int .i64 1, .string a, .string v, .string f, .slice qA qn qc, .string l, .slice none 0 0] 25)
  have HBF := Lib.hid hbf
  have HW := Lib.hid (((Below.refl _ w).alloc (Nat.le_refl _) (.cells #[.int .i64 1, .string a, .string v, .string f, .slice qA qn qc, .string l, .slice rA rn rc] 25)).alloc (by simp) (.cells #[.int .i64 1, .string a, .string v, .string f, .slice qA qn qc, .string l, .slice none 0 0] 25))
  clear hp hbf
  go_enter Tryd.func84, Tryd.ntmps84
  go_wp2_with fail
  (go_at_call 89)
  refine (H.out _).mono ?_
  rintro e w1 ⟨rfl, hb1⟩
  have hb2 := bk_below HBF.out hb1
  have e0 : w1.cell? ⟨w.heap.size, 0, none⟩ = some (.int .i64 1) := hb2.cell 0
  have e1 : w1.cell? ⟨w.heap.size, 1, none⟩ = some (.string a) := hb2.cell 1
  have e6 : w1.cell? ⟨w.heap.size, 6, none⟩ = some (.slice rA rn rc) := hb2.cell 6
  have HE := Lib.hid (HW.out.trans (hb1.mono HW.out.size))
  clear hb1 hb2 HBF HW H
  cases p with
  | false =>
    go_wp2_with fail
    go_ret
    exact tellsQ_of (by simp) HE.out
  | true =>
    go_wp2_with fail
    go_ret
    exact tellsQ_of (by simp) HE.out
set_option maxHeartbeats 4000000 in
theorem one_2 (a v f : ByteArray) (qA : Option Addr) (qn qc : Nat) (l : ByteArray) (rA : Option Addr) (rn rc : Nat) (w : World) :
    Calls Tryd.prog 84 #[.agg #[.int .i64 2, .string a, .string v, .string f, .slice qA qn qc, .string l, .slice rA rn rc]] w (TellsQ (plainB a v f qn l 0 && (rn == 1)) w) := by
  have H := Lib.hid (fun W => plain_any 2 a v f qA qn qc l none 0 0 W)
  obtain ⟨p, hp⟩ : ∃ p, p = plainB a v f qn l 0 := ⟨_, rfl⟩
  rw [← hp] at H ⊢
  have hbf := (Bk.new w 25 #[.int .i64 2, .string a, .string v, .string f, .slice qA qn qc, .string l, .slice rA rn rc]).alloc (.cells #[.int .i64 2, .string a, .string v, .string f, .slice qA qn qc, .string l, .slice none 0 0] 25)
  have HBF := Lib.hid hbf
  have HW := Lib.hid (((Below.refl _ w).alloc (Nat.le_refl _) (.cells #[.int .i64 2, .string a, .string v, .string f, .slice qA qn qc, .string l, .slice rA rn rc] 25)).alloc (by simp) (.cells #[.int .i64 2, .string a, .string v, .string f, .slice qA qn qc, .string l, .slice none 0 0] 25))
  clear hp hbf
  go_enter Tryd.func84, Tryd.ntmps84
  go_wp2_with fail
  (go_at_call 89)
  refine (H.out _).mono ?_
  rintro e w1 ⟨rfl, hb1⟩
  have hb2 := bk_below HBF.out hb1
  have e0 : w1.cell? ⟨w.heap.size, 0, none⟩ = some (.int .i64 2) := hb2.cell 0
  have e1 : w1.cell? ⟨w.heap.size, 1, none⟩ = some (.string a) := hb2.cell 1
  have e6 : w1.cell? ⟨w.heap.size, 6, none⟩ = some (.slice rA rn rc) := hb2.cell 6
  have HE := Lib.hid (HW.out.trans (hb1.mono HW.out.size))
  clear hb1 hb2 HBF HW H
  cases p with
  | false =>
    go_wp2_with fail
    go_ret
    exact tellsQ_of (by simp) HE.out
  | true =>
    cases hr : (rn == 1) with
    | false =>
      have r1 : ((rn : Int) == 1) = false := by simp at hr ⊢; omega
      have r2 := hr
      have HR := Lib.hid hr
      clear hr
      go_wp2_with fail
      go_ret
      exact tellsQ_of (by rw [HR.out]; rfl) HE.out
    | true =>
      obtain rfl : rn = 1 := by simpa using hr
      clear hr
      go_wp2_with fail
      go_ret
      exact tellsQ_of (by simp) HE.out
set_option maxHeartbeats 4000000 in
theorem one_3 (a v f : ByteArray) (qA : Option Addr) (qn qc : Nat) (l : ByteArray) (rA : Option Addr) (rn rc : Nat) (w : World) :
    Calls Tryd.prog 84 #[.agg #[.int .i64 3, .string a, .string v, .string f, .slice qA qn qc, .string l, .slice rA rn rc]] w (TellsQ (plainB ⟨#[]⟩ ⟨#[]⟩ f qn l rn && (fullB a && decide (a.size ≤ 64))) w) := by
  have H := Lib.hid (fun W => plain_any 3 ⟨#[]⟩ ⟨#[]⟩ f qA qn qc l rA rn rc W)
  obtain ⟨p, hp⟩ : ∃ p, p = plainB ⟨#[]⟩ ⟨#[]⟩ f qn l rn := ⟨_, rfl⟩
  rw [← hp] at H ⊢
  have hbf := (Bk.new w 25 #[.int .i64 3, .string a, .string v, .string f, .slice qA qn qc, .string l, .slice rA rn rc]).alloc (.cells #[.int .i64 3, .string ⟨#[]⟩, .string ⟨#[]⟩, .string f, .slice qA qn qc, .string l, .slice rA rn rc] 25)
  have HBF := Lib.hid hbf
  have HW := Lib.hid (((Below.refl _ w).alloc (Nat.le_refl _) (.cells #[.int .i64 3, .string a, .string v, .string f, .slice qA qn qc, .string l, .slice rA rn rc] 25)).alloc (by simp) (.cells #[.int .i64 3, .string ⟨#[]⟩, .string ⟨#[]⟩, .string f, .slice qA qn qc, .string l, .slice rA rn rc] 25))
  clear hp hbf
  go_enter Tryd.func84, Tryd.ntmps84
  go_wp2_with fail
  (go_at_call 89)
  refine (H.out _).mono ?_
  rintro e w1 ⟨rfl, hb1⟩
  have hb2 := bk_below HBF.out hb1
  have e0 : w1.cell? ⟨w.heap.size, 0, none⟩ = some (.int .i64 3) := hb2.cell 0
  have e1 : w1.cell? ⟨w.heap.size, 1, none⟩ = some (.string a) := hb2.cell 1
  have e6 : w1.cell? ⟨w.heap.size, 6, none⟩ = some (.slice rA rn rc) := hb2.cell 6
  have HE := Lib.hid (HW.out.trans (hb1.mono HW.out.size))
  clear hb1 hb2 HBF HW H
  cases p with
  | false =>
    go_wp2_with fail
    go_ret
    exact tellsQ_of (by simp) HE.out
  | true =>
    cases ha : fullB a with
    | false =>
      have a1 : (!a.toList.isEmpty) = false := ha
      have a2 := (full_no ha).1
      have a3 := (full_no ha).2
      have HFA := Lib.hid ha
      clear ha
      go_wp2_with fail
      go_ret
      exact tellsQ_of (by rw [HFA.out]; rfl) HE.out
    | true =>
      have a1 : (!a.toList.isEmpty) = true := ha
      have a2 := full_yes ha
      have HFA := Lib.hid ha
      clear ha
      cases hs : decide (a.size ≤ 64) with
      | false =>
        have s1 : decide ((a.size : Int) ≤ 64) = false := by simp at hs ⊢; omega
        have HSA := Lib.hid hs
        clear hs
        go_wp2_with fail
        go_ret
        exact tellsQ_of (by rw [HFA.out, HSA.out]; rfl) HE.out
      | true =>
        have s1 : decide ((a.size : Int) ≤ 64) = true := by simp at hs ⊢; omega
        have HSA := Lib.hid hs
        clear hs
        go_wp2_with fail
        go_ret
        exact tellsQ_of (by rw [HFA.out, HSA.out]; rfl) HE.out
set_option maxHeartbeats 4000000 in
theorem one_5 (a v f : ByteArray) (qA : Option Addr) (qn qc : Nat) (l : ByteArray) (rA : Option Addr) (rn rc : Nat) (w : World) :
    Calls Tryd.prog 84 #[.agg #[.int .i64 5, .string a, .string v, .string f, .slice qA qn qc, .string l, .slice rA rn rc]] w (TellsQ (plainB ⟨#[]⟩ ⟨#[]⟩ f qn l rn && (fullB a && decide (a.size ≤ 64))) w) := by
  have H := Lib.hid (fun W => plain_any 5 ⟨#[]⟩ ⟨#[]⟩ f qA qn qc l rA rn rc W)
  obtain ⟨p, hp⟩ : ∃ p, p = plainB ⟨#[]⟩ ⟨#[]⟩ f qn l rn := ⟨_, rfl⟩
  rw [← hp] at H ⊢
  have hbf := (Bk.new w 25 #[.int .i64 5, .string a, .string v, .string f, .slice qA qn qc, .string l, .slice rA rn rc]).alloc (.cells #[.int .i64 5, .string ⟨#[]⟩, .string ⟨#[]⟩, .string f, .slice qA qn qc, .string l, .slice rA rn rc] 25)
  have HBF := Lib.hid hbf
  have HW := Lib.hid (((Below.refl _ w).alloc (Nat.le_refl _) (.cells #[.int .i64 5, .string a, .string v, .string f, .slice qA qn qc, .string l, .slice rA rn rc] 25)).alloc (by simp) (.cells #[.int .i64 5, .string ⟨#[]⟩, .string ⟨#[]⟩, .string f, .slice qA qn qc, .string l, .slice rA rn rc] 25))
  clear hp hbf
  go_enter Tryd.func84, Tryd.ntmps84
  go_wp2_with fail
  (go_at_call 89)
  refine (H.out _).mono ?_
  rintro e w1 ⟨rfl, hb1⟩
  have hb2 := bk_below HBF.out hb1
  have e0 : w1.cell? ⟨w.heap.size, 0, none⟩ = some (.int .i64 5) := hb2.cell 0
  have e1 : w1.cell? ⟨w.heap.size, 1, none⟩ = some (.string a) := hb2.cell 1
  have e6 : w1.cell? ⟨w.heap.size, 6, none⟩ = some (.slice rA rn rc) := hb2.cell 6
  have HE := Lib.hid (HW.out.trans (hb1.mono HW.out.size))
  clear hb1 hb2 HBF HW H
  cases p with
  | false =>
    go_wp2_with fail
    go_ret
    exact tellsQ_of (by simp) HE.out
  | true =>
    cases ha : fullB a with
    | false =>
      have a1 : (!a.toList.isEmpty) = false := ha
      have a2 := (full_no ha).1
      have a3 := (full_no ha).2
      have HFA := Lib.hid ha
      clear ha
      go_wp2_with fail
      go_ret
      exact tellsQ_of (by rw [HFA.out]; rfl) HE.out
    | true =>
      have a1 : (!a.toList.isEmpty) = true := ha
      have a2 := full_yes ha
      have HFA := Lib.hid ha
      clear ha
      cases hs : decide (a.size ≤ 64) with
      | false =>
        have s1 : decide ((a.size : Int) ≤ 64) = false := by simp at hs ⊢; omega
        have HSA := Lib.hid hs
        clear hs
        go_wp2_with fail
        go_ret
        exact tellsQ_of (by rw [HFA.out, HSA.out]; rfl) HE.out
      | true =>
        have s1 : decide ((a.size : Int) ≤ 64) = true := by simp at hs ⊢; omega
        have HSA := Lib.hid hs
        clear hs
        go_wp2_with fail
        go_ret
        exact tellsQ_of (by rw [HFA.out, HSA.out]; rfl) HE.out
set_option maxHeartbeats 4000000 in
theorem one_6 (a v f : ByteArray) (qA : Option Addr) (qn qc : Nat) (l : ByteArray) (rA : Option Addr) (rn rc : Nat) (w : World) :
    Calls Tryd.prog 84 #[.agg #[.int .i64 6, .string a, .string v, .string f, .slice qA qn qc, .string l, .slice rA rn rc]] w (TellsQ (plainB ⟨#[]⟩ ⟨#[]⟩ f qn l rn && (fullB a && decide (a.size ≤ 64))) w) := by
  have H := Lib.hid (fun W => plain_any 6 ⟨#[]⟩ ⟨#[]⟩ f qA qn qc l rA rn rc W)
  obtain ⟨p, hp⟩ : ∃ p, p = plainB ⟨#[]⟩ ⟨#[]⟩ f qn l rn := ⟨_, rfl⟩
  rw [← hp] at H ⊢
  have hbf := (Bk.new w 25 #[.int .i64 6, .string a, .string v, .string f, .slice qA qn qc, .string l, .slice rA rn rc]).alloc (.cells #[.int .i64 6, .string ⟨#[]⟩, .string ⟨#[]⟩, .string f, .slice qA qn qc, .string l, .slice rA rn rc] 25)
  have HBF := Lib.hid hbf
  have HW := Lib.hid (((Below.refl _ w).alloc (Nat.le_refl _) (.cells #[.int .i64 6, .string a, .string v, .string f, .slice qA qn qc, .string l, .slice rA rn rc] 25)).alloc (by simp) (.cells #[.int .i64 6, .string ⟨#[]⟩, .string ⟨#[]⟩, .string f, .slice qA qn qc, .string l, .slice rA rn rc] 25))
  clear hp hbf
  go_enter Tryd.func84, Tryd.ntmps84
  go_wp2_with fail
  (go_at_call 89)
  refine (H.out _).mono ?_
  rintro e w1 ⟨rfl, hb1⟩
  have hb2 := bk_below HBF.out hb1
  have e0 : w1.cell? ⟨w.heap.size, 0, none⟩ = some (.int .i64 6) := hb2.cell 0
  have e1 : w1.cell? ⟨w.heap.size, 1, none⟩ = some (.string a) := hb2.cell 1
  have e6 : w1.cell? ⟨w.heap.size, 6, none⟩ = some (.slice rA rn rc) := hb2.cell 6
  have HE := Lib.hid (HW.out.trans (hb1.mono HW.out.size))
  clear hb1 hb2 HBF HW H
  cases p with
  | false =>
    go_wp2_with fail
    go_ret
    exact tellsQ_of (by simp) HE.out
  | true =>
    cases ha : fullB a with
    | false =>
      have a1 : (!a.toList.isEmpty) = false := ha
      have a2 := (full_no ha).1
      have a3 := (full_no ha).2
      have HFA := Lib.hid ha
      clear ha
      go_wp2_with fail
      go_ret
      exact tellsQ_of (by rw [HFA.out]; rfl) HE.out
    | true =>
      have a1 : (!a.toList.isEmpty) = true := ha
      have a2 := full_yes ha
      have HFA := Lib.hid ha
      clear ha
      cases hs : decide (a.size ≤ 64) with
      | false =>
        have s1 : decide ((a.size : Int) ≤ 64) = false := by simp at hs ⊢; omega
        have HSA := Lib.hid hs
        clear hs
        go_wp2_with fail
        go_ret
        exact tellsQ_of (by rw [HFA.out, HSA.out]; rfl) HE.out
      | true =>
        have s1 : decide ((a.size : Int) ≤ 64) = true := by simp at hs ⊢; omega
        have HSA := Lib.hid hs
        clear hs
        go_wp2_with fail
        go_ret
        exact tellsQ_of (by rw [HFA.out, HSA.out]; rfl) HE.out
set_option maxHeartbeats 4000000 in
theorem one_8 (a v f : ByteArray) (qA : Option Addr) (qn qc : Nat) (l : ByteArray) (rA : Option Addr) (rn rc : Nat) (w : World) :
    Calls Tryd.prog 84 #[.agg #[.int .i64 8, .string a, .string v, .string f, .slice qA qn qc, .string l, .slice rA rn rc]] w (TellsQ (plainB ⟨#[]⟩ ⟨#[]⟩ f qn l rn && (fullB a && decide (a.size ≤ 64))) w) := by
  have H := Lib.hid (fun W => plain_any 8 ⟨#[]⟩ ⟨#[]⟩ f qA qn qc l rA rn rc W)
  obtain ⟨p, hp⟩ : ∃ p, p = plainB ⟨#[]⟩ ⟨#[]⟩ f qn l rn := ⟨_, rfl⟩
  rw [← hp] at H ⊢
  have hbf := (Bk.new w 25 #[.int .i64 8, .string a, .string v, .string f, .slice qA qn qc, .string l, .slice rA rn rc]).alloc (.cells #[.int .i64 8, .string ⟨#[]⟩, .string ⟨#[]⟩, .string f, .slice qA qn qc, .string l, .slice rA rn rc] 25)
  have HBF := Lib.hid hbf
  have HW := Lib.hid (((Below.refl _ w).alloc (Nat.le_refl _) (.cells #[.int .i64 8, .string a, .string v, .string f, .slice qA qn qc, .string l, .slice rA rn rc] 25)).alloc (by simp) (.cells #[.int .i64 8, .string ⟨#[]⟩, .string ⟨#[]⟩, .string f, .slice qA qn qc, .string l, .slice rA rn rc] 25))
  clear hp hbf
  go_enter Tryd.func84, Tryd.ntmps84
  go_wp2_with fail
  (go_at_call 89)
  refine (H.out _).mono ?_
  rintro e w1 ⟨rfl, hb1⟩
  have hb2 := bk_below HBF.out hb1
  have e0 : w1.cell? ⟨w.heap.size, 0, none⟩ = some (.int .i64 8) := hb2.cell 0
  have e1 : w1.cell? ⟨w.heap.size, 1, none⟩ = some (.string a) := hb2.cell 1
  have e6 : w1.cell? ⟨w.heap.size, 6, none⟩ = some (.slice rA rn rc) := hb2.cell 6
  have HE := Lib.hid (HW.out.trans (hb1.mono HW.out.size))
  clear hb1 hb2 HBF HW H
  cases p with
  | false =>
    go_wp2_with fail
    go_ret
    exact tellsQ_of (by simp) HE.out
  | true =>
    cases ha : fullB a with
    | false =>
      have a1 : (!a.toList.isEmpty) = false := ha
      have a2 := (full_no ha).1
      have a3 := (full_no ha).2
      have HFA := Lib.hid ha
      clear ha
      go_wp2_with fail
      go_ret
      exact tellsQ_of (by rw [HFA.out]; rfl) HE.out
    | true =>
      have a1 : (!a.toList.isEmpty) = true := ha
      have a2 := full_yes ha
      have HFA := Lib.hid ha
      clear ha
      cases hs : decide (a.size ≤ 64) with
      | false =>
        have s1 : decide ((a.size : Int) ≤ 64) = false := by simp at hs ⊢; omega
        have HSA := Lib.hid hs
        clear hs
        go_wp2_with fail
        go_ret
        exact tellsQ_of (by rw [HFA.out, HSA.out]; rfl) HE.out
      | true =>
        have s1 : decide ((a.size : Int) ≤ 64) = true := by simp at hs ⊢; omega
        have HSA := Lib.hid hs
        clear hs
        go_wp2_with fail
        go_ret
        exact tellsQ_of (by rw [HFA.out, HSA.out]; rfl) HE.out
set_option maxHeartbeats 4000000 in
theorem one_7 (a v f : ByteArray) (qA : Option Addr) (qn qc : Nat) (l : ByteArray) (rA : Option Addr) (rn rc : Nat) (w : World) :
    Calls Tryd.prog 84 #[.agg #[.int .i64 7, .string a, .string v, .string f, .slice qA qn qc, .string l, .slice rA rn rc]] w (TellsQ (plainB ⟨#[]⟩ v f qn l rn && (fullB a && decide (a.size ≤ 64))) w) := by
  have H := Lib.hid (fun W => plain_any 7 ⟨#[]⟩ v f qA qn qc l rA rn rc W)
  obtain ⟨p, hp⟩ : ∃ p, p = plainB ⟨#[]⟩ v f qn l rn := ⟨_, rfl⟩
  rw [← hp] at H ⊢
  have hbf := (Bk.new w 25 #[.int .i64 7, .string a, .string v, .string f, .slice qA qn qc, .string l, .slice rA rn rc]).alloc (.cells #[.int .i64 7, .string ⟨#[]⟩, .string v, .string f, .slice qA qn qc, .string l, .slice rA rn rc] 25)
  have HBF := Lib.hid hbf
  have HW := Lib.hid (((Below.refl _ w).alloc (Nat.le_refl _) (.cells #[.int .i64 7, .string a, .string v, .string f, .slice qA qn qc, .string l, .slice rA rn rc] 25)).alloc (by simp) (.cells #[.int .i64 7, .string ⟨#[]⟩, .string v, .string f, .slice qA qn qc, .string l, .slice rA rn rc] 25))
  clear hp hbf
  go_enter Tryd.func84, Tryd.ntmps84
  go_wp2_with fail
  (go_at_call 89)
  refine (H.out _).mono ?_
  rintro e w1 ⟨rfl, hb1⟩
  have hb2 := bk_below HBF.out hb1
  have e0 : w1.cell? ⟨w.heap.size, 0, none⟩ = some (.int .i64 7) := hb2.cell 0
  have e1 : w1.cell? ⟨w.heap.size, 1, none⟩ = some (.string a) := hb2.cell 1
  have e6 : w1.cell? ⟨w.heap.size, 6, none⟩ = some (.slice rA rn rc) := hb2.cell 6
  have HE := Lib.hid (HW.out.trans (hb1.mono HW.out.size))
  clear hb1 hb2 HBF HW H
  cases p with
  | false =>
    go_wp2_with fail
    go_ret
    exact tellsQ_of (by simp) HE.out
  | true =>
    cases ha : fullB a with
    | false =>
      have a1 : (!a.toList.isEmpty) = false := ha
      have a2 := (full_no ha).1
      have a3 := (full_no ha).2
      have HFA := Lib.hid ha
      clear ha
      go_wp2_with fail
      go_ret
      exact tellsQ_of (by rw [HFA.out]; rfl) HE.out
    | true =>
      have a1 : (!a.toList.isEmpty) = true := ha
      have a2 := full_yes ha
      have HFA := Lib.hid ha
      clear ha
      cases hs : decide (a.size ≤ 64) with
      | false =>
        have s1 : decide ((a.size : Int) ≤ 64) = false := by simp at hs ⊢; omega
        have HSA := Lib.hid hs
        clear hs
        go_wp2_with fail
        go_ret
        exact tellsQ_of (by rw [HFA.out, HSA.out]; rfl) HE.out
      | true =>
        have s1 : decide ((a.size : Int) ≤ 64) = true := by simp at hs ⊢; omega
        have HSA := Lib.hid hs
        clear hs
        go_wp2_with fail
        go_ret
        exact tellsQ_of (by rw [HFA.out, HSA.out]; rfl) HE.out
set_option maxHeartbeats 4000000 in
theorem one_far (k : Int) (a v f : ByteArray) (qA : Option Addr) (qn qc : Nat) (l : ByteArray) (rA : Option Addr) (rn rc : Nat) (w : World) (h : k < 0 ∨ 8 < k) :
    Calls Tryd.prog 84 #[.agg #[.int .i64 k, .string a, .string v, .string f, .slice qA qn qc, .string l, .slice rA rn rc]] w (TellsQ false w) := by
  have q0 : (k == 0) = false := by simp; omega
  have q1 : (k == 1) = false := by simp; omega
  have q2 : (k == 2) = false := by simp; omega
  have q3 : (k == 3) = false := by simp; omega
  have q4 : (k == 4) = false := by simp; omega
  have q5 : (k == 5) = false := by simp; omega
  have q6 : (k == 6) = false := by simp; omega
  have q7 : (k == 7) = false := by simp; omega
  have q8 : (k == 8) = false := by simp; omega
  clear h
  go_enter Tryd.func84, Tryd.ntmps84
  go_wp2_with fail
  go_ret
  exact tellsQ_of rfl (((Below.refl _ w).alloc (Nat.le_refl _) _).alloc (by simp) _)
set_option maxHeartbeats 4000000 in
theorem one_4 (a v f : ByteArray) (qA : Option Addr) (qn qc : Nat) (l : ByteArray) (rA : Option Addr) (rn rc : Nat) (w : World) (z : Bool) (hz : ∀ W, Below w.heap.size w W → Calls Tryd.prog 90 #[.slice qA qn qc, .func (.func 91) #[] #[]] W (TellsT z W)) :
    Calls Tryd.prog 84 #[.agg #[.int .i64 4, .string a, .string v, .string f, .slice qA qn qc, .string l, .slice rA rn rc]] w (TellsQ ((fullB f || (fullB l || z)) && (decide (qn ≤ 8) && (plainB ⟨#[]⟩ v ⟨#[]⟩ 0 ⟨#[]⟩ rn && (fullB a && decide (a.size ≤ 64))))) w) := by
  have HZ := Lib.hid hz
  have HW0 := Lib.hid (((Below.refl _ w).alloc (Nat.le_refl _) (.cells #[.int .i64 4, .string a, .string v, .string f, .slice qA qn qc, .string l, .slice rA rn rc] 25)).alloc (by simp) (.cells #[.int .i64 4, .string a, .string v, .string f, .slice qA qn qc, .string l, .slice rA rn rc] 25))
  clear hz
  cases h_f : fullB f with
  | true =>
    have f1 : (!f.toList.isEmpty) = true := h_f
    have f2 := full_yes h_f
    simp only [Bool.true_or, Bool.true_and]
    clear h_f
    cases hq : decide (qn ≤ 8) with
    | false =>
      have q1 : decide ((8 : Int) < (qn : Int)) = true := by simp at hq ⊢; omega
      clear hq
      go_enter Tryd.func84, Tryd.ntmps84
      go_wp2_with fail
      go_ret
      exact tellsQ_of (by simp) HW0.out
    | true =>
      have q1 : decide ((8 : Int) < (qn : Int)) = false := by simp at hq ⊢; omega
      clear hq
      have H := Lib.hid (fun W => plain_any 4 ⟨#[]⟩ v ⟨#[]⟩ none 0 0 ⟨#[]⟩ rA rn rc W)
      obtain ⟨p, hp⟩ : ∃ p, p = plainB ⟨#[]⟩ v ⟨#[]⟩ 0 ⟨#[]⟩ rn := ⟨_, rfl⟩
      rw [← hp] at H ⊢
      have hbf := (Bk.new w 25 #[.int .i64 4, .string a, .string v, .string f, .slice qA qn qc, .string l, .slice rA rn rc]).alloc (.cells #[.int .i64 4, .string ⟨#[]⟩, .string v, .string ⟨#[]⟩, .slice none 0 0, .string ⟨#[]⟩, .slice rA rn rc] 25)
      have HBF := Lib.hid hbf
      have HW := Lib.hid (((Below.refl _ w).alloc (Nat.le_refl _) (.cells #[.int .i64 4, .string a, .string v, .string f, .slice qA qn qc, .string l, .slice rA rn rc] 25)).alloc (by simp) (.cells #[.int .i64 4, .string ⟨#[]⟩, .string v, .string ⟨#[]⟩, .slice none 0 0, .string ⟨#[]⟩, .slice rA rn rc] 25))
      clear hp hbf
      go_enter Tryd.func84, Tryd.ntmps84
      go_wp2_with fail
      (go_at_call 89)
      refine (H.out _).mono ?_
      rintro e w1 ⟨rfl, hb1⟩
      have hb2 := bk_below HBF.out hb1
      have e0 : w1.cell? ⟨w.heap.size, 0, none⟩ = some (.int .i64 4) := hb2.cell 0
      have e1 : w1.cell? ⟨w.heap.size, 1, none⟩ = some (.string a) := hb2.cell 1
      have e6 : w1.cell? ⟨w.heap.size, 6, none⟩ = some (.slice rA rn rc) := hb2.cell 6
      have HE := Lib.hid (HW.out.trans (hb1.mono HW.out.size))
      clear hb1 hb2 HBF HW H
      cases p with
      | false =>
        go_wp2_with fail
        go_ret
        exact tellsQ_of (by simp) HE.out
      | true =>
        cases ha : fullB a with
        | false =>
          have a1 : (!a.toList.isEmpty) = false := ha
          have a2 := (full_no ha).1
          have a3 := (full_no ha).2
          have HFA := Lib.hid ha
          clear ha
          go_wp2_with fail
          go_ret
          exact tellsQ_of (by rw [HFA.out]; rfl) HE.out
        | true =>
          have a1 : (!a.toList.isEmpty) = true := ha
          have a2 := full_yes ha
          have HFA := Lib.hid ha
          clear ha
          cases hs : decide (a.size ≤ 64) with
          | false =>
            have s1 : decide ((a.size : Int) ≤ 64) = false := by simp at hs ⊢; omega
            have HSA := Lib.hid hs
            clear hs
            go_wp2_with fail
            go_ret
            exact tellsQ_of (by rw [HFA.out, HSA.out]; rfl) HE.out
          | true =>
            have s1 : decide ((a.size : Int) ≤ 64) = true := by simp at hs ⊢; omega
            have HSA := Lib.hid hs
            clear hs
            go_wp2_with fail
            go_ret
            exact tellsQ_of (by rw [HFA.out, HSA.out]; rfl) HE.out
  | false =>
    have f1 : (!f.toList.isEmpty) = false := h_f
    have f2 := (full_no h_f).1
    have f3 := (full_no h_f).2
    simp only [Bool.false_or]
    clear h_f
    cases h_l : fullB l with
    | true =>
      have l1 : (!l.toList.isEmpty) = true := h_l
      have l2 := full_yes h_l
      simp only [Bool.true_or, Bool.true_and]
      clear h_l
      cases hq : decide (qn ≤ 8) with
      | false =>
        have q1 : decide ((8 : Int) < (qn : Int)) = true := by simp at hq ⊢; omega
        clear hq
        go_enter Tryd.func84, Tryd.ntmps84
        go_wp2_with fail
        go_ret
        exact tellsQ_of (by simp) HW0.out
      | true =>
        have q1 : decide ((8 : Int) < (qn : Int)) = false := by simp at hq ⊢; omega
        clear hq
        have H := Lib.hid (fun W => plain_any 4 ⟨#[]⟩ v ⟨#[]⟩ none 0 0 ⟨#[]⟩ rA rn rc W)
        obtain ⟨p, hp⟩ : ∃ p, p = plainB ⟨#[]⟩ v ⟨#[]⟩ 0 ⟨#[]⟩ rn := ⟨_, rfl⟩
        rw [← hp] at H ⊢
        have hbf := (Bk.new w 25 #[.int .i64 4, .string a, .string v, .string f, .slice qA qn qc, .string l, .slice rA rn rc]).alloc (.cells #[.int .i64 4, .string ⟨#[]⟩, .string v, .string ⟨#[]⟩, .slice none 0 0, .string ⟨#[]⟩, .slice rA rn rc] 25)
        have HBF := Lib.hid hbf
        have HW := Lib.hid (((Below.refl _ w).alloc (Nat.le_refl _) (.cells #[.int .i64 4, .string a, .string v, .string f, .slice qA qn qc, .string l, .slice rA rn rc] 25)).alloc (by simp) (.cells #[.int .i64 4, .string ⟨#[]⟩, .string v, .string ⟨#[]⟩, .slice none 0 0, .string ⟨#[]⟩, .slice rA rn rc] 25))
        clear hp hbf
        go_enter Tryd.func84, Tryd.ntmps84
        go_wp2_with fail
        (go_at_call 89)
        refine (H.out _).mono ?_
        rintro e w1 ⟨rfl, hb1⟩
        have hb2 := bk_below HBF.out hb1
        have e0 : w1.cell? ⟨w.heap.size, 0, none⟩ = some (.int .i64 4) := hb2.cell 0
        have e1 : w1.cell? ⟨w.heap.size, 1, none⟩ = some (.string a) := hb2.cell 1
        have e6 : w1.cell? ⟨w.heap.size, 6, none⟩ = some (.slice rA rn rc) := hb2.cell 6
        have HE := Lib.hid (HW.out.trans (hb1.mono HW.out.size))
        clear hb1 hb2 HBF HW H
        cases p with
        | false =>
          go_wp2_with fail
          go_ret
          exact tellsQ_of (by simp) HE.out
        | true =>
          cases ha : fullB a with
          | false =>
            have a1 : (!a.toList.isEmpty) = false := ha
            have a2 := (full_no ha).1
            have a3 := (full_no ha).2
            have HFA := Lib.hid ha
            clear ha
            go_wp2_with fail
            go_ret
            exact tellsQ_of (by rw [HFA.out]; rfl) HE.out
          | true =>
            have a1 : (!a.toList.isEmpty) = true := ha
            have a2 := full_yes ha
            have HFA := Lib.hid ha
            clear ha
            cases hs : decide (a.size ≤ 64) with
            | false =>
              have s1 : decide ((a.size : Int) ≤ 64) = false := by simp at hs ⊢; omega
              have HSA := Lib.hid hs
              clear hs
              go_wp2_with fail
              go_ret
              exact tellsQ_of (by rw [HFA.out, HSA.out]; rfl) HE.out
            | true =>
              have s1 : decide ((a.size : Int) ≤ 64) = true := by simp at hs ⊢; omega
              have HSA := Lib.hid hs
              clear hs
              go_wp2_with fail
              go_ret
              exact tellsQ_of (by rw [HFA.out, HSA.out]; rfl) HE.out
    | false =>
      have l1 : (!l.toList.isEmpty) = false := h_l
      have l2 := (full_no h_l).1
      have l3 := (full_no h_l).2
      simp only [Bool.false_or]
      clear h_l
      cases z with
      | false =>
        simp only [Bool.false_and]
        go_enter Tryd.func84, Tryd.ntmps84
        go_wp2_with fail
        (go_at_call 90)
        refine (HZ.out _ HW0.out).mono ?_
        rintro e w0 ⟨rfl, rfl⟩
        go_wp2_with fail
        go_ret
        exact tellsQ_of rfl HW0.out
      | true =>
        simp only [Bool.true_and]
        cases hq : decide (qn ≤ 8) with
        | false =>
          have q1 : decide ((8 : Int) < (qn : Int)) = true := by simp at hq ⊢; omega
          clear hq
          go_enter Tryd.func84, Tryd.ntmps84
          go_wp2_with fail
          (go_at_call 90)
          refine (HZ.out _ HW0.out).mono ?_
          rintro e w0 ⟨rfl, rfl⟩
          go_wp2_with fail
          go_ret
          exact tellsQ_of (by simp) HW0.out
        | true =>
          have q1 : decide ((8 : Int) < (qn : Int)) = false := by simp at hq ⊢; omega
          clear hq
          have H := Lib.hid (fun W => plain_any 4 ⟨#[]⟩ v ⟨#[]⟩ none 0 0 ⟨#[]⟩ rA rn rc W)
          obtain ⟨p, hp⟩ : ∃ p, p = plainB ⟨#[]⟩ v ⟨#[]⟩ 0 ⟨#[]⟩ rn := ⟨_, rfl⟩
          rw [← hp] at H ⊢
          have hbf := (Bk.new w 25 #[.int .i64 4, .string a, .string v, .string f, .slice qA qn qc, .string l, .slice rA rn rc]).alloc (.cells #[.int .i64 4, .string ⟨#[]⟩, .string v, .string ⟨#[]⟩, .slice none 0 0, .string ⟨#[]⟩, .slice rA rn rc] 25)
          have HBF := Lib.hid hbf
          have HW := Lib.hid (((Below.refl _ w).alloc (Nat.le_refl _) (.cells #[.int .i64 4, .string a, .string v, .string f, .slice qA qn qc, .string l, .slice rA rn rc] 25)).alloc (by simp) (.cells #[.int .i64 4, .string ⟨#[]⟩, .string v, .string ⟨#[]⟩, .slice none 0 0, .string ⟨#[]⟩, .slice rA rn rc] 25))
          clear hp hbf
          go_enter Tryd.func84, Tryd.ntmps84
          go_wp2_with fail
          (go_at_call 90)
          refine (HZ.out _ HW0.out).mono ?_
          rintro e w0 ⟨rfl, rfl⟩
          go_wp2_with fail
          (go_at_call 89)
          refine (H.out _).mono ?_
          rintro e w1 ⟨rfl, hb1⟩
          have hb2 := bk_below HBF.out hb1
          have e0 : w1.cell? ⟨w.heap.size, 0, none⟩ = some (.int .i64 4) := hb2.cell 0
          have e1 : w1.cell? ⟨w.heap.size, 1, none⟩ = some (.string a) := hb2.cell 1
          have e6 : w1.cell? ⟨w.heap.size, 6, none⟩ = some (.slice rA rn rc) := hb2.cell 6
          have HE := Lib.hid (HW.out.trans (hb1.mono HW.out.size))
          clear hb1 hb2 HBF HW H
          cases p with
          | false =>
            go_wp2_with fail
            go_ret
            exact tellsQ_of (by simp) HE.out
          | true =>
            cases ha : fullB a with
            | false =>
              have a1 : (!a.toList.isEmpty) = false := ha
              have a2 := (full_no ha).1
              have a3 := (full_no ha).2
              have HFA := Lib.hid ha
              clear ha
              go_wp2_with fail
              go_ret
              exact tellsQ_of (by rw [HFA.out]; rfl) HE.out
            | true =>
              have a1 : (!a.toList.isEmpty) = true := ha
              have a2 := full_yes ha
              have HFA := Lib.hid ha
              clear ha
              cases hs : decide (a.size ≤ 64) with
              | false =>
                have s1 : decide ((a.size : Int) ≤ 64) = false := by simp at hs ⊢; omega
                have HSA := Lib.hid hs
                clear hs
                go_wp2_with fail
                go_ret
                exact tellsQ_of (by rw [HFA.out, HSA.out]; rfl) HE.out
              | true =>
                have s1 : decide ((a.size : Int) ≤ 64) = true := by simp at hs ⊢; omega
                have HSA := Lib.hid hs
                clear hs
                go_wp2_with fail
                go_ret
                exact tellsQ_of (by rw [HFA.out, HSA.out]; rfl) HE.out

end Go.Proofs.YtbiglfpikfjbpaaDoor
