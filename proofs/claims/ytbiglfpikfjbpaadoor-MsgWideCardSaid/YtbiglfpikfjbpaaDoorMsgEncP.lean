/- Encode of any message, Decode of its bytes. -/
import Derived.Test.YtbiglfpikfjbpaaDoorMsgWE
import Derived.Test.YtbiglfpikfjbpaaDoorMsgAwake
namespace Go.Proofs.YtbiglfpikfjbpaaDoor
open Go.RowKit
set_option maxRecDepth 100000
set_option linter.unusedVariables false
set_option linter.unusedSimpArgs false
/-- Encode, whatever the message. -/
def MEncPost (M : Ms) (w : World) (e : Ending) (w' : World) : Prop :=
  Below w.heap.size w w' ∧ ((M.right = true ∧ e = .returned (.tuple #[.string (encS M.tree), .int .i64 (encE M.tree)])) ∨ (M.right = false ∧ e = .returned (.tuple #[.string ⟨#[]⟩, .int .i64 4])))
set_option maxHeartbeats 4000000 in
theorem encode_no (M : Ms) (m : MC) (S : Nat → Prop) (w : World) (h : MsAt w S M m) (ha : AnsAt w) (hr : M.right = false) :
    Calls Tryd.prog 8 #[.agg m.cells] w (fun e w' => Below w.heap.size w w' ∧ e = .returned (.tuple #[.string ⟨#[]⟩, .int .i64 4])) := by
  have HS := Lib.hid size_msg
  obtain ⟨cs, hcs⟩ : ∃ cs, cs = m.cells := ⟨_, rfl⟩
  have HSZ : Hid (cs.size = 31) := by rw [hcs]; rfl
  rw [← hcs]
  have hB := (Below.refl w.heap.size w).alloc (Nat.le_refl _) (.cells cs 30)
  have HB := Lib.hid hB
  have HBK := Lib.hid (Bk.new w 30 cs)
  have HRT := Lib.hid (show Calls Tryd.prog 16 #[.agg cs] (w.alloc (.cells cs 30)) (TellsQ false _) by
    have := msgRight_any M m S _ (h.keep hB.size (fun x _ hlt => hB.block x hlt) (fun _ h _ => h)) (ha.below hB); rwa [hr, ← hcs] at this)
  clear hcs hB h ha hr
  go_enter Tryd.func8, Tryd.ntmps8
  go_wp2_with (first
    | (refine wpList_load_row rfl 30 (.tmp 1) rfl w.heap.size rfl 30 cs (0, 0) _ HBK.out Tryd.underlying30 rfl (by rw [HSZ.out]; exact HS.out) ?_)
    | (go_at_call 16; refine HRT.out.mono ?_; rintro e w1 ⟨rfl, hb1⟩; have HB1 := Lib.hid (HB.out.trans (hb1.mono HB.out.size)); clear hb1)
    | fail)
  go_ret2
  exact ⟨HB1.out, rfl⟩
theorem mencode_any (M : Ms) (m : MC) (S : Nat → Prop) (w : World) (h : MsAt w S M m) (ha : AnsAt w) (hs : M.small) : Calls Tryd.prog 8 #[.agg m.cells] w (MEncPost M w) := by
  cases hr : M.right with
  | true => exact (encode_right M m S w h ha hr hs).mono fun e w' ⟨h1, h2⟩ => ⟨h1, .inl ⟨hr, h2⟩⟩
  | false => exact (encode_no M m S w h ha hr).mono fun e w' ⟨h1, h2⟩ => ⟨h1, .inr ⟨hr, h2⟩⟩
/-- Decode, its cells not named. -/
def DecE (er : Int) (w : World) (e : Ending) (w' : World) : Prop := Below w.heap.size w w' ∧ ∃ ms : Array Value, e = .returned (.tuple #[.agg ms, .int .i64 er]) ∧ ms.size = 31 ∧ ms.all (·.oneCell') = true
theorem decode_none (s : ByteArray) (w : World) (hs : s.size ≤ 1000000) (ha : AnsAt w) (h : decP s = none) : Calls Tryd.prog 11 #[.string s] w (DecE 4 w) := by
  refine (mdecode_any s w hs ha).mono ?_
  rintro e w' ⟨hb, hh⟩
  rcases hh with ⟨-, rfl⟩ | ⟨M, m, hM, -, -⟩
  · exact ⟨hb, _, rfl, msg_size MC.zero, msg_one MC.zero⟩
  · rw [h] at hM; cases hM
theorem decode_some (s : ByteArray) (w : World) (hs : s.size ≤ 1000000) (ha : AnsAt w) {M : Ms} (h : decP s = some M) : Calls Tryd.prog 11 #[.string s] w (DecE 0 w) := by
  refine (mdecode_any s w hs ha).mono ?_
  rintro e w' ⟨hb, hh⟩
  rcases hh with ⟨hn, -⟩ | ⟨M', m, hM, rfl, -⟩
  · rw [h] at hn; cases hn
  · exact ⟨hb, m.cells, rfl, msg_size m, msg_one m⟩
/-- The bytes of a message that has some. -/
theorem enc_ok {t : Tl} (h : encE t = 0) : t.right 1 = true ∧ (PB.enc t).length ≤ 8192 ∧ (encS t).data.toList = PB.enc t ∧ (encS t).size = (PB.enc t).length := by
  have h' := h
  unfold encE at h
  cases hr : t.right 1 with
  | false => rw [if_pos hr] at h; cases h
  | true =>
    rw [if_neg (by simp [hr])] at h
    by_cases hl : 8192 < (PB.enc t).length
    · rw [if_pos hl] at h; cases h
    · refine ⟨rfl, by omega, ?_, ?_⟩
      · unfold encS; rw [if_pos h']
      · unfold encS; rw [if_pos h']; rfl
theorem tree_list (M : Ms) : M.tree.isB 0 16 true = true := by unfold Ms.tree tlist Tl.isB; rfl
theorem behind_none (M : Ms) (hr : M.right = true) (h : encE M.tree = 0) (tail : ByteArray) (ht : tail.toList.isEmpty = false) : decP (encS M.tree ++ tail) = none := by
  obtain ⟨h1, h2, h3, h4⟩ := enc_ok h
  have e : (encS M.tree ++ tail).data.toList = PB.enc M.tree ++ tail.data.toList := by simp [h3]
  have hd := PB.dec_enc M.tree h1 h2 tail.data.toList
  unfold decP
  rw [e, hd]
  have hts : tail.size ≠ 0 := by
    intro hz
    have : tail.toList = [] := by rw [ByteArray.toList_eq]; exact List.eq_nil_of_length_eq_zero hz
    rw [this] at ht
    cases ht
  rw [if_pos]
  right
  left
  simp only
  rw [ByteArray.size_append, h4]
  omega
theorem behind_some (M : Ms) (hr : M.right = true) (h : encE M.tree = 0) : decP (encS M.tree) = some M := by
  obtain ⟨h1, h2, h3, h4⟩ := enc_ok h
  have hd := PB.dec_enc M.tree h1 h2 []
  rw [List.append_nil] at hd
  unfold decP
  rw [h3, hd, if_neg]
  · exact M.back hr
  · simp only [h4, ne_eq, not_true_eq_false, tree_list, or_self]
    simp
theorem behind_cut (M : Ms) (h : encE M.tree = 0) (k : Nat) (hk : k < (encS M.tree).size) : decP ((encS M.tree).extract 0 k) = none := by
  obtain ⟨h1, h2, h3, h4⟩ := enc_ok h
  have e : ((encS M.tree).extract 0 k).data.toList = (PB.enc M.tree).take k := by simp [h3]
  have hd := PB.dec_cut M.tree h1 h2 k (by omega)
  unfold decP
  rw [e, hd, if_pos]
  left
  simp
theorem enc_two_bytes {t : Tl} (h : encE t = 0) : 2 ≤ (encS t).size := by
  obtain ⟨h1, h2, h3, h4⟩ := enc_ok h
  rw [h4]
  exact PB.enc_pos t
/-- Same of two equal messages is true. -/
def SameOk : Prop := ∀ (M : Ms) (m1 m2 : MC) (S1 S2 : Nat → Prop) (w : World), MsAt w S1 M m1 → MsAt w S2 M m2 → Calls Tryd.prog 12 #[.agg m1.cells, .agg m2.cells] w (TellsQ true w)
/-- Decode, and that what it gives is the message. -/
theorem decode_same (hsame : SameOk) (s : ByteArray) (w : World) (hs : s.size ≤ 1000000) (ha : AnsAt w) {M : Ms} (h : decP s = some M) : Calls Tryd.prog 11 #[.string s] w (fun e w' => Below w.heap.size w w' ∧ ∃ ms : Array Value, e = .returned (.tuple #[.agg ms, .int .i64 0]) ∧ ms.size = 31 ∧ ms.all (·.oneCell') = true ∧
    ∀ W m S, Off [w'.heap.size] (w'.alloc mzero) W → MsAt W S M m → Calls Tryd.prog 12 #[.agg ms, .agg m.cells] W (TellsQ true W)) := by
  refine (mdecode_any s w hs ha).mono ?_
  rintro e w' ⟨hb, hh⟩
  rcases hh with ⟨hn, -⟩ | ⟨M', m', hM, rfl, hm⟩
  · rw [h] at hn; cases hn
  · rw [h] at hM
    obtain rfl := Option.some.inj hM
    refine ⟨hb, m'.cells, rfl, msg_size m', msg_one m', fun W m S ho h2 => ?_⟩
    refine hsame M m' m (fun _ => True) S W (hm.keep ?_ (fun x _ hlt => ?_) (fun _ _ _ => trivial)) h2
    · have := ho.size; simp at this; omega
    · rw [ho.block x (by simp; omega) (by simp; omega)]
      exact (((Below.refl w'.heap.size w').alloc (Nat.le_refl _) mzero).block x hlt)
end Go.Proofs.YtbiglfpikfjbpaaDoor
