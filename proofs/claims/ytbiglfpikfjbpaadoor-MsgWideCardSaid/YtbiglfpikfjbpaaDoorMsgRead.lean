/- A message's reader: the operation. -/
import Derived.Test.YtbiglfpikfjbpaaDoorMsgOper
namespace Go.Proofs.YtbiglfpikfjbpaaDoor
open Go.RowKit
set_option maxRecDepth 100000
set_option linter.unusedVariables false
set_option linter.unusedSimpArgs false

/-- An operation's value as a message. -/
def opP (id : Int) : Tl → Option Ms
  | .mk c k op s ks =>
    if c ≠ 1 then none
    else if op = 2 ∧ k = false ∧ fullB s = false then some (Ms.base id 2)
    else if op = 10 ∧ k = false then some { Ms.base id 10 with name := s }
    else if op = 16 ∧ k = false then (numOf false s 0 2147483647).map fun n => { Ms.base id 16 with other := n }
    else if k = false ∨ op = 2 ∨ op = 10 ∨ op = 16 then none
    else (partsP id op ks).bind fun p => if p.2 = [] then some p.1 else none
theorem opP_mk (id c op : Int) (k : Bool) (s : ByteArray) (ks : List Tl) : opP id (.mk c k op s ks) =
    if c ≠ 1 then none
    else if op = 2 ∧ k = false ∧ fullB s = false then some (Ms.base id 2)
    else if op = 10 ∧ k = false then some { Ms.base id 10 with name := s }
    else if op = 16 ∧ k = false then (numOf false s 0 2147483647).map fun n => { Ms.base id 16 with other := n }
    else if k = false ∨ op = 2 ∨ op = 10 ∨ op = 16 then none
    else (partsP id op ks).bind fun p => if p.2 = [] then some p.1 else none := rfl
def RdO (g : Nat) (r : Option Ms) (w : World) (e : Ending) (w' : World) : Prop :=
  Off [g] w w' ∧ ((r = none ∧ ThrowsM e ∧ OldM w' g) ∨ ∃ (M : Ms) (m : MC), r = some M ∧ e = .returned (.tuple #[]) ∧ Bk w' g 30 m.cells ∧ MsAt w' (fun x => w.heap.size ≤ x) M m)
theorem base_op (id op : Int) : (MC.base id 0).cells.setIfInBounds 1 (.int .i64 op) = (MC.base id op).cells := MC.put_op _ _
abbrev tlv5 (c : Int) (k : Bool) (t : Int) (s : ByteArray) (A : Option Addr) (n cap : Nat) : Obj := .cells #[.int .i64 c, .bool k, .int .i64 t, .string s, .slice A n cap] 38
/-- The message's block in the memory in which readOperation begins. -/
theorem oper_bk {w : World} {g : Nat} {id : Int} (hg : Bk w g 30 (MC.base id 0).cells) (op : Int) (o : Obj) : Bk ((w.setCell ⟨g, 1, none⟩ (.int .i64 op)).alloc o) g 30 (MC.base id op).cells ∧ Off [g] w ((w.setCell ⟨g, 1, none⟩ (.int .i64 op)).alloc o) := by
  have h := (hg.put 1 (.int .i64 op)).alloc o
  rw [base_op] at h
  exact ⟨h, ((Off.refl [g] w).setCell (.inl (by simp)) _).alloc o⟩

set_option maxHeartbeats 4000000 in
theorem oper_class (id c op : Int) (k : Bool) (s : ByteArray) (A : Option Addr) (n cap : Nat) (g : Nat) (w : World) (hg : Bk w g 30 (MC.base id 0).cells) (hc : c ≠ 1) :
    Calls Tryd.prog 29 #[.agg #[.int .i64 c, .bool k, .int .i64 op, .string s, .slice A n cap], .pointer (some ⟨g, 0, none⟩)] w fun e w' => Off [g] w w' ∧ ThrowsM e ∧ OldM w' g := by
  have HO := Lib.hid (oper_bk hg op (tlv5 c k op s A n cap)).2
  have HOB := Lib.hid (oper_bk hg op (tlv5 c k op s A n cap)).1
  have c1 : w.cell? ⟨g, 1, none⟩ = some (.int .i64 0) := hg.cell 1
  have f1 := hg.frozen 1
  have hlt := hg.lt
  have h1 : (c == 1) = false := by simpa using hc
  have h2 : (c != 1) = true := by simpa using hc
  clear hg hc
  go_enter Tryd.func29, Tryd.ntmps29
  go_wp2_with fail
  exact ⟨rfl, HO.out, rfl, ⟨_, HOB.out, rfl⟩⟩
set_option maxHeartbeats 4000000 in
theorem oper_no (id op : Int) (k : Bool) (s : ByteArray) (A : Option Addr) (n cap : Nat) (g : Nat) (w : World) (hg : Bk w g 30 (MC.base id 0).cells)
    (h : (k = false ∧ op = 2 ∧ fullB s = true) ∨ (k = false ∧ op ≠ 2 ∧ op ≠ 10 ∧ op ≠ 16) ∨ (k = true ∧ op = 2) ∨ (k = true ∧ op = 10) ∨ (k = true ∧ op = 16)) :
    Calls Tryd.prog 29 #[.agg #[.int .i64 1, .bool k, .int .i64 op, .string s, .slice A n cap], .pointer (some ⟨g, 0, none⟩)] w fun e w' => Off [g] w w' ∧ ThrowsM e ∧ OldM w' g := by
  have HO := Lib.hid (oper_bk hg op (tlv5 1 k op s A n cap)).2
  have HOB := Lib.hid (oper_bk hg op (tlv5 1 k op s A n cap)).1
  have c1 : w.cell? ⟨g, 1, none⟩ = some (.int .i64 0) := hg.cell 1
  have f1 := hg.frozen 1
  have hlt := hg.lt
  clear hg
  rcases h with ⟨rfl, rfl, hs⟩ | ⟨rfl, h2, h10, h16⟩ | ⟨rfl, rfl⟩ | ⟨rfl, rfl⟩ | ⟨rfl, rfl⟩
  · have hf1 : (!s.toList.isEmpty) = true := hs
    have hf2 : s.toList.isEmpty = false := by simpa using hf1
    clear hs
    go_enter Tryd.func29, Tryd.ntmps29
    go_wp2_with fail
    exact ⟨rfl, HO.out, rfl, ⟨_, HOB.out, rfl⟩⟩
  · have q2 : (op == 2) = false := by simpa using h2
    have q10 : (op == 10) = false := by simpa using h10
    have q16 : (op == 16) = false := by simpa using h16
    clear h2 h10 h16
    go_enter Tryd.func29, Tryd.ntmps29
    go_wp2_with fail
    exact ⟨rfl, HO.out, rfl, ⟨_, HOB.out, rfl⟩⟩
  all_goals
    go_enter Tryd.func29, Tryd.ntmps29
    go_wp2_with fail
    exact ⟨rfl, HO.out, rfl, ⟨_, HOB.out, rfl⟩⟩
set_option maxHeartbeats 4000000 in
theorem oper_unbind (id : Int) (s : ByteArray) (A : Option Addr) (n cap : Nat) (g : Nat) (w : World) (hg : Bk w g 30 (MC.base id 0).cells) (hs : fullB s = false) :
    Calls Tryd.prog 29 #[.agg #[.int .i64 1, .bool false, .int .i64 2, .string s, .slice A n cap], .pointer (some ⟨g, 0, none⟩)] w (RdO g (some (Ms.base id 2)) w) := by
  have HO := Lib.hid (oper_bk hg 2 (tlv5 1 false 2 s A n cap))
  have c1 : w.cell? ⟨g, 1, none⟩ = some (.int .i64 0) := hg.cell 1
  have f1 := hg.frozen 1
  have hlt := hg.lt
  have hf1 : (!s.toList.isEmpty) = false := hs
  have hf2 : s.toList.isEmpty = true := by simpa using hf1
  have hf3 : s.toList = [] := by simpa using hf2
  clear hg hs
  go_enter Tryd.func29, Tryd.ntmps29
  go_wp2_with fail
  go_end0
  exact ⟨HO.out.2, .inr ⟨_, _, rfl, rfl, HO.out.1, MsAt.flat rfl rfl rfl rfl rfl rfl ⟨Nat.zero_le _, Nat.zero_le _, Nat.zero_le _, Nat.zero_le _, Nat.zero_le _, Nat.zero_le _⟩⟩⟩
set_option maxHeartbeats 4000000 in
theorem oper_delete (id : Int) (s : ByteArray) (A : Option Addr) (n cap : Nat) (g : Nat) (w : World) (hg : Bk w g 30 (MC.base id 0).cells) (hs : s.size ≤ maxLen) :
    Calls Tryd.prog 29 #[.agg #[.int .i64 1, .bool false, .int .i64 10, .string s, .slice A n cap], .pointer (some ⟨g, 0, none⟩)] w (RdO g (some { Ms.base id 10 with name := s }) w) := by
  have HS := Lib.hid hs
  have c1 : w.cell? ⟨g, 1, none⟩ = some (.int .i64 0) := hg.cell 1
  have f1 := hg.frozen 1
  have c3 : w.cell? ⟨g, 3, none⟩ = some (.string ⟨#[]⟩) := hg.cell 3
  have f3 := hg.frozen 3
  have hlt := hg.lt
  have hb := ((hg.put 1 (.int .i64 10)).put 3 (.string s)).alloc (tlv5 1 false 10 s A n cap)
  rw [base_op, MC.put_name] at hb
  have HB := Lib.hid hb
  have HO := Lib.hid ((((Off.refl [g] w).setCell (p := ⟨g, 1, none⟩) (.inl (by simp)) (.int .i64 10)).setCell (p := ⟨g, 3, none⟩) (.inl (by simp)) (.string s)).alloc (tlv5 1 false 10 s A n cap))
  clear hg hs hb
  go_enter Tryd.func29, Tryd.ntmps29
  go_wp2_with fail
  go_end0
  exact ⟨HO.out, .inr ⟨{ Ms.base id 10 with name := s }, _, rfl, rfl, HB.out, MsAt.flat rfl rfl rfl rfl rfl rfl ⟨HS.out, Nat.zero_le _, Nat.zero_le _, Nat.zero_le _, Nat.zero_le _, Nat.zero_le _⟩⟩⟩
set_option maxHeartbeats 4000000 in
theorem oper_abandon (id : Int) (s : ByteArray) (A : Option Addr) (n cap : Nat) (g : Nat) (w : World) (hg : Bk w g 30 (MC.base id 0).cells) (hs : s.size ≤ maxLen) :
    Calls Tryd.prog 29 #[.agg #[.int .i64 1, .bool false, .int .i64 16, .string s, .slice A n cap], .pointer (some ⟨g, 0, none⟩)] w (RdO g ((numOf false s 0 2147483647).map fun n => { Ms.base id 16 with other := n }) w) := by
  have HO := Lib.hid (oper_bk hg 16 (tlv5 1 false 16 s A n cap))
  have c1 : w.cell? ⟨g, 1, none⟩ = some (.int .i64 0) := hg.cell 1
  have f1 := hg.frozen 1
  have hlt := hg.lt
  clear hg
  cases hn : PB.isNum false s.data.toList with
  | false =>
    have H2 := Lib.hid (fun W => number_no 1 16 false s A n cap W hs hn)
    have HN := Lib.hid hn
    clear hn hs
    go_enter Tryd.func29, Tryd.ntmps29
    go_wp2_with fail
    (go_at_call 49)
    refine (H2.out _).mono ?_
    rintro e w3 ⟨rfl, hb3⟩
    have HB3 := Lib.hid hb3
    clear hb3
    go_wp2_with fail
    exact ⟨rfl, HO.out.2.trans (Off.of_below HB3.out _), .inl ⟨by simp [numOf, HN.out], rfl, ⟨_, bk_below HO.out.1 HB3.out, rfl⟩⟩⟩
  | true =>
    have H2 := Lib.hid (fun W => number_yes 1 16 s A n cap W hn)
    have HN := Lib.hid hn
    obtain ⟨z, hz⟩ : ∃ z, z = PB.sgn s.data.toList := ⟨_, rfl⟩
    rw [← hz] at H2
    have HZ := Lib.hid hz
    clear hn hz hs
    go_enter Tryd.func29, Tryd.ntmps29
    go_wp2_with fail
    (go_at_call 49)
    refine (H2.out _).mono ?_
    rintro e w3 ⟨rfl, hb3⟩
    have HB3 := Lib.hid hb3
    have hb4 := (Off.of_below hb3 []).bk HO.out.1 (by simp)
    have e1 : w3.cell? ⟨g, 29, none⟩ = some (.int .i64 0) := hb4.cell 29
    have e2 := hb4.frozen 29
    have HB4 := Lib.hid hb4
    have H3 := Lib.hid (within_any z 0 2147483647 w3)
    clear hb3 hb4
    go_wp2_with fail
    (go_at_call 36)
    refine H3.out.mono ?_
    cases hin : inB z 0 2147483647 with
    | false =>
      rintro e w4 ⟨rfl, rfl⟩
      have HI := Lib.hid hin
      clear hin
      go_wp2_with fail
      exact ⟨rfl, HO.out.2.trans (Off.of_below HB3.out _), .inl ⟨by simp [numOf, HN.out, ← HZ.out, HI.out], rfl, ⟨_, HB4.out, rfl⟩⟩⟩
    | true =>
      rintro e w4 ⟨rfl, rfl⟩
      have HI := Lib.hid hin
      clear hin
      have hp := HB4.out.put 29 (.int .i64 z)
      rw [MC.put_other] at hp
      have HP := Lib.hid hp
      clear hp
      go_wp2_with fail
      go_end0
      exact ⟨(HO.out.2.trans (Off.of_below HB3.out _)).setCell (.inl (by simp)) _, .inr ⟨{ Ms.base id 16 with other := z }, _, by simp [numOf, HN.out, ← HZ.out, HI.out], rfl, HP.out, MsAt.flat rfl rfl rfl rfl rfl rfl ⟨Nat.zero_le _, Nat.zero_le _, Nat.zero_le _, Nat.zero_le _, Nat.zero_le _, Nat.zero_le _⟩⟩⟩
set_option maxHeartbeats 4000000 in
theorem oper_parts (id op : Int) (s : ByteArray) (A : Option Addr) (ks : List Tl) (cap : Nat) (S : Nat → Prop) (g : Nat) (w : World) (hg : Bk w g 30 (MC.base id 0).cells) (h2 : op ≠ 2) (h10 : op ≠ 10) (h16 : op ≠ 16)
    (hfew : Few ks) (hl : ks.length ≤ cap ∧ cap ≤ maxLen) (hk : KsAt w S ks A 0) (hSg : ∀ x, S x → x ≠ g) (ha : AnsAt w) (hga : g ≠ 0) :
    Calls Tryd.prog 29 #[.agg #[.int .i64 1, .bool true, .int .i64 op, .string s, .slice A ks.length cap], .pointer (some ⟨g, 0, none⟩)] w (RdO g ((partsP id op ks).bind fun p => if p.2 = [] then some p.1 else none) w) := by
  have hO := oper_bk hg op (tlv5 1 true op s A ks.length cap)
  have hO2 := hO.2.alloc (.cells #[.slice A ks.length cap] 75)
  have hb2 := hO.1.alloc (.cells #[.slice A ks.length cap] 75)
  have hlt := hg.lt
  have hsz : (((w.setCell ⟨g, 1, none⟩ (.int .i64 op)).alloc (tlv5 1 true op s A ks.length cap)).alloc (.cells #[.slice A ks.length cap] 75)).heap.size = w.heap.size + 2 := by simp [World.setCell]
  have hrw : Bk (((w.setCell ⟨g, 1, none⟩ (.int .i64 op)).alloc (tlv5 1 true op s A ks.length cap)).alloc (.cells #[.slice A ks.length cap] 75)) (w.heap.size + 1) 75 #[.slice A ks.length cap] := by
    have h := Bk.new ((w.setCell ⟨g, 1, none⟩ (.int .i64 op)).alloc (tlv5 1 true op s A ks.length cap)) 75 #[.slice A ks.length cap]
    have e : ((w.setCell ⟨g, 1, none⟩ (.int .i64 op)).alloc (tlv5 1 true op s A ks.length cap)).heap.size = w.heap.size + 1 := by simp [World.setCell]
    rwa [e] at h
  have htr : TRow (((w.setCell ⟨g, 1, none⟩ (.int .i64 op)).alloc (tlv5 1 true op s A ks.length cap)).alloc (.cells #[.slice A ks.length cap] 75)) (fun x => S x ∧ x < w.heap.size) (.slice A ks.length cap) ks :=
    (TRow.of_kids hl hk).keep hO2.size (fun x hx hlt => hO2.block x hlt (by simpa using hSg x hx)) (fun x hx hlt => ⟨hx, hlt⟩)
  have hFx : Fix (fun x => S x ∧ x < w.heap.size) (w.heap.size + 1) g (((w.setCell ⟨g, 1, none⟩ (.int .i64 op)).alloc (tlv5 1 true op s A ks.length cap)).alloc (.cells #[.slice A ks.length cap] 75)).heap.size :=
    ⟨by omega, by rw [hsz]; omega, by rw [hsz]; omega, fun x hx => ⟨by have := hx.2; omega, hSg x hx.1, by rw [hsz]; have := hx.2; omega⟩⟩
  have HC := Lib.hid (parts_any id op (w.heap.size + 1) g _ ks _ _ hFx hrw htr hb2 hfew (ha.off hO2 (by simpa using fun e => hga e.symm)))
  have HO := Lib.hid hO2
  have c1 : w.cell? ⟨g, 1, none⟩ = some (.int .i64 0) := hg.cell 1
  have f1 := hg.frozen 1
  have q2 : (op == 2) = false := by simpa using h2
  have q10 : (op == 10) = false := by simpa using h10
  have q16 : (op == 16) = false := by simpa using h16
  clear hO hO2 hb2 hg hsz hrw htr hFx h2 h10 h16 hfew hl hk hSg ha hga
  go_enter Tryd.func29, Tryd.ntmps29
  go_wp2_with fail
  (go_at_call 51)
  refine HC.out.mono ?_
  rintro e w3 ⟨ho, hcs⟩
  have hof := HO.out.then ho (by intro z hz; simp at hz; rcases hz with rfl | rfl; exact .inr (by omega); exact .inl (by simp))
  rcases hcs with ⟨hn, rfl, hold⟩ | ⟨M, rest, v', m, hn, rfl, hbr, htr, hbg, hms⟩
  · exact ⟨rfl, hof, .inl ⟨by simp [hn], rfl, hold⟩⟩
  have HN := Lib.hid hn
  have HOF := Lib.hid hof
  have HBG := Lib.hid hbg
  have HMS := Lib.hid hms
  obtain ⟨A3, cap3, rfl, -⟩ := htr
  have HE := Lib.hid (end_any (w.heap.size + 1) rest.length A3 cap3 _ hbr)
  clear hn ho hof hbr hbg hms HC
  go_wp2_with fail
  (go_at_call 32)
  refine HE.out.mono ?_
  rintro e w4 ⟨ho, hcs⟩
  have hof := HOF.out.then ho (by simp)
  rcases hcs.symm with ⟨hn, rfl⟩ | ⟨hn, rfl⟩
  · have hl : rest ≠ [] := by intro h; rw [h] at hn; simp at hn
    exact ⟨rfl, hof, .inl ⟨by simp [HN.out, hl], rfl, ⟨_, ho.bk HBG.out (by simp), rfl⟩⟩⟩
  have hl : rest = [] := by simpa using hn
  have HL := Lib.hid (show ((partsP id op ks).bind fun p => if p.2 = [] then some p.1 else none) = some M by rw [HN.out]; exact if_pos hl)
  have HO4 := Lib.hid hof
  have HB4 := Lib.hid (ho.bk HBG.out (by simp))
  have HM4 := Lib.hid (HMS.out.keep (T := fun x => w.heap.size ≤ x) ho.size (fun x hx hlt => ho.block x hlt (by simp)) (fun x hx _ => Nat.le_trans HO.out.size hx))
  clear hn hl hof ho
  go_wp2_with fail
  go_end0
  exact ⟨HO4.out, .inr ⟨M, m, HL.out, rfl, HB4.out, HM4.out⟩⟩
theorem oper_any (id : Int) (t : Tl) (cs : Array Value) (S : Nat → Prop) (g : Nat) (w : World) (hg : Bk w g 30 (MC.base id 0).cells) (ht : TlAt w S t cs) (hfew : t.few) (hSg : ∀ x, S x → x ≠ g) (ha : AnsAt w) (hga : g ≠ 0) :
    Calls Tryd.prog 29 #[.agg cs, .pointer (some ⟨g, 0, none⟩)] w (RdO g (opP id t) w) := by
  obtain ⟨c, k, op, s, ks⟩ := t
  unfold TlAt at ht
  obtain ⟨A, cap, rfl, hl, hwc, hwt, hs, hk⟩ := ht
  unfold Tl.few at hfew
  by_cases hc : c = 1
  case neg =>
    refine (oper_class id c op k s A ks.length cap g w hg hc).mono fun e w' h => ⟨h.1, .inl ⟨?_, h.2.1, h.2.2⟩⟩
    rw [opP_mk, if_pos hc]
  subst hc
  by_cases h2 : op = 2 ∧ k = false ∧ fullB s = false
  · obtain ⟨rfl, rfl, hf⟩ := h2
    have e : opP id (.mk 1 false 2 s ks) = some (Ms.base id 2) := by rw [opP_mk, if_neg (by omega), if_pos ⟨rfl, rfl, hf⟩]
    rw [e]
    exact oper_unbind id s A ks.length cap g w hg hf
  by_cases h10 : op = 10 ∧ k = false
  · obtain ⟨rfl, rfl⟩ := h10
    have e : opP id (.mk 1 false 10 s ks) = some { Ms.base id 10 with name := s } := by rw [opP_mk, if_neg (by omega), if_neg h2, if_pos ⟨rfl, rfl⟩]
    rw [e]
    exact oper_delete id s A ks.length cap g w hg hs
  by_cases h16 : op = 16 ∧ k = false
  · obtain ⟨rfl, rfl⟩ := h16
    have e : opP id (.mk 1 false 16 s ks) = (numOf false s 0 2147483647).map fun n => { Ms.base id 16 with other := n } := by rw [opP_mk, if_neg (by omega), if_neg h2, if_neg h10, if_pos ⟨rfl, rfl⟩]
    rw [e]
    exact oper_abandon id s A ks.length cap g w hg hs
  by_cases hno : k = false ∨ op = 2 ∨ op = 10 ∨ op = 16
  · have e : opP id (.mk 1 k op s ks) = none := by rw [opP_mk, if_neg (by omega), if_neg h2, if_neg h10, if_neg h16, if_pos hno]
    refine (oper_no id op k s A ks.length cap g w hg ?_).mono fun e' w' h => ⟨h.1, .inl ⟨e, h.2.1, h.2.2⟩⟩
    cases k with
    | false =>
      by_cases q2 : op = 2
      · refine .inl ⟨rfl, q2, ?_⟩
        cases hf : fullB s with
        | true => rfl
        | false => exact absurd ⟨q2, rfl, hf⟩ h2
      · exact .inr (.inl ⟨rfl, q2, fun h => h10 ⟨h, rfl⟩, fun h => h16 ⟨h, rfl⟩⟩)
    | true =>
      rcases hno with h | h | h | h
      · cases h
      · exact .inr (.inr (.inl ⟨rfl, h⟩))
      · exact .inr (.inr (.inr (.inl ⟨rfl, h⟩)))
      · exact .inr (.inr (.inr (.inr ⟨rfl, h⟩)))
  · have hk2 : k = true := by cases k with | true => rfl | false => exact absurd (.inl rfl) hno
    subst hk2
    have e : opP id (.mk 1 true op s ks) = (partsP id op ks).bind fun p => if p.2 = [] then some p.1 else none := by rw [opP_mk, if_neg (by omega), if_neg h2, if_neg h10, if_neg h16, if_neg hno]
    rw [e]
    exact oper_parts id op s A ks cap S g w hg (fun h => hno (.inr (.inl h))) (fun h => hno (.inr (.inr (.inl h)))) (fun h => hno (.inr (.inr (.inr h)))) hfew hl hk hSg ha hga
end Go.Proofs.YtbiglfpikfjbpaaDoor
