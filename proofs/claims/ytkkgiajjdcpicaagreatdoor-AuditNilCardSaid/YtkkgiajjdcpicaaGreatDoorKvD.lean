/- An empty file is opened. -/
import Derived.Test.YtkkgiajjdcpicaaGreatDoorKvC
namespace Go.Proofs.YtkkgiajjdcpicaaGreatDoor
open Go.RowKit
set_option maxRecDepth 100000
set_option linter.unusedVariables false
set_option linter.unusedSimpArgs false
set_option maxHeartbeats 16000000 in
theorem freenew_any (w : World) : Calls Tryz.prog 128 #[] w (fun e w' => e = .returned (.pointer (some ⟨w.heap.size, 0, none⟩)) ∧ (∃ fcs, Bk w' w.heap.size 153 fcs ∧ fcs[0]? = some (.slice none 0 0)) ∧ Below w.heap.size w w') := by
  go_enter Tryz.func128, Tryz.ntmps128
  go_wp2_with fail
  go_ret
  refine ⟨rfl, ⟨_, Bk.new w _ _, ?_⟩, (Below.refl _ _).alloc (Nat.le_refl _) _⟩
  rfl
set_option maxHeartbeats 4000000 in
theorem pieces_zero (q : Nat) (w : World) : Calls Tryz.prog 76 #[.pointer (some ⟨q, 0, none⟩), .int .i64 0] w (fun e w' => ∃ f, w.heap.size ≤ f ∧ e = .returned (.tuple #[.pointer (some ⟨f, 0, none⟩), .slice none 0 0, .int .i64 0]) ∧ (∃ fcs, Bk w' f 153 fcs ∧ fcs[0]? = some (.slice none 0 0)) ∧ Below w.heap.size w w') := by
  have HF := Lib.hid fun (W : World) => freenew_any W
  go_enter Tryz.func76, Tryz.ntmps76
  go_wp2_with fail
  refine (HF.out _).mono ?_
  rintro e w1 ⟨rfl, hf, hb⟩
  have HE := Lib.hid hf
  have HB := Lib.hid hb
  clear hf hb
  go_wp2_with fail
  refine wp_loop_rounds 2 ?_
  rw [rounds_succ]
  go_wp2_with fail
  refine bodyPost_ret (v := .tuple #[.pointer (some ⟨w.heap.size, 0, none⟩), .slice none 0 0, .int .i64 0]) (by simp [results, Tryz.results76, go_sem]) rfl ?_
  exact ⟨_, Nat.le_refl _, rfl, HE.out, HB.out⟩
theorem kvformat_any {L : Ending → World → Prop} {a : Value} {n : Int} {w : World} (h : Calls Tryz.prog 74 #[a, .int .i64 n] w (fun e w' => (∃ x : Int, e = .returned (.int .i64 x)) ∧ L e w')) : Calls Tryz.prog 38 #[a, .int .i64 n] w L := by
  have H := Lib.hid h
  clear h
  go_enter Tryz.func38, Tryz.ntmps38
  go_wp2_with fail
  refine H.out.mono ?_
  rintro e w1 ⟨⟨v, rfl⟩, hl⟩
  have HL := Lib.hid hl
  clear hl
  go_wp2_with fail
  exact HL.out
def KOpenPost (g : Nat) (P : PgS) (w : World) (e : Ending) (w' : World) : Prop := ∃ b q r f, e = .returned (.tuple #[.pointer (some ⟨b, 0, none⟩), .int .i64 0]) ∧ Db w' b q r f g P St.empty ∧ (∀ x ∈ [b, q, r, f], w.heap.size ≤ x) ∧ Below w.heap.size w w'
set_option maxHeartbeats 16000000 in
theorem kvopen_to {g : Nat} {S : List Nat} {D : DevS} {P : PgS} {w : World} (hd : Dev w g S D) (hr : RowAt w) (hb : D.steps ≤ 1000000000) (h0 : openR D = 0) (hP : openP D = P) (hf : P.m.f = 0) :
    Calls Tryz.prog 39 #[ptr g] w (KOpenPost g P w) := by
  have HO := Lib.hid (open_to hd hr hb h0 hP)
  have hf2 : ∀ W : World, Sem.run Tryz.prog (Instr.field 56 (.agg #[.int .i64 P.m.t, .int .i64 P.m.r, .int .i64 P.m.f, .int .i64 P.m.p, .int .i64 P.m.l]) 2) W = .ok (.int .i64 0) W := fun W => by rw [mfld2, hf]
  have HPI := Lib.hid fun (q : Nat) (W : World) => pieces_zero q W
  have HRN := Lib.hid fun (W : World) => rdnew_any W
  clear hd hr hb h0 hP hf
  go_enter Tryz.func39, Tryz.ntmps39
  go_wp2_with fail
  refine HO.out.mono ?_
  rintro e w1 ⟨q, hq, rfl, hpg, hb1⟩
  have HP := Lib.hid hpg
  have HB1 := Lib.hid hb1
  have HM := Lib.hid (pmeta_any hpg)
  have hq1 := hpg.old q (by simp)
  clear hpg hb1
  go_wp2_with fail
  refine HM.out.mono ?_
  rintro e w2 ⟨rfl, hb2⟩
  have HB2 := Lib.hid (HB1.out.trans (hb2.mono HB1.out.size))
  have HP2 := Lib.hid (HP.out.below hb2)
  have hq2 := Nat.lt_of_lt_of_le hq1 hb2.size
  clear hb2
  go_wp2_with fail
  refine (HPI.out _ _).mono ?_
  rintro e w3 ⟨f, hfl, rfl, hfe, hb3⟩
  have HB3 := Lib.hid (HB2.out.trans (hb3.mono HB2.out.size))
  have HP3 := Lib.hid (HP2.out.below hb3)
  have HFE := Lib.hid hfe
  have hf3 : w.heap.size ≤ f := Nat.le_trans HB2.out.size hfl
  clear hb3 hfe
  go_wp2_with fail
  refine (HRN.out _).mono ?_
  rintro e w4 ⟨rfl, hr4, hb4⟩
  have HB4 := Lib.hid (HB3.out.trans (hb4.mono HB3.out.size))
  have HP4 := Lib.hid (HP3.out.below hb4)
  have HR4 := Lib.hid hr4
  have HFE4 : Hid (∃ fcs, Bk w4 f 153 fcs ∧ fcs[0]? = some (.slice none 0 0)) := by
    obtain ⟨fcs, h1, h2⟩ := HFE.out
    exact ⟨fcs, bk_below h1 hb4, h2⟩
  clear hb4 hr4
  go_wp2_with fail
  go_ret2
  refine ⟨w4.heap.size, q, w3.heap.size, f, rfl, ⟨Bk.new w4 _ _, HP4.out.below ((Below.refl _ _).alloc (Nat.le_refl _) _), HR4.out.alloc _, ?_⟩, ?_, HB4.out.alloc HB4.out.size _⟩
  · obtain ⟨fcs, h1, h2⟩ := HFE4.out
    exact ⟨fcs, h1.alloc _, h2⟩
  · intro x hx
    simp only [List.mem_cons, List.not_mem_nil, or_false] at hx
    rcases hx with rfl | rfl | rfl | rfl
    · exact HB4.out.size
    · exact hq
    · exact HB3.out.size
    · exact hf3
def KBeginPost (n limit : Int) (w : World) (e : Ending) (w' : World) : Prop := ∃ b q r f g S, e = .returned (.pointer (some ⟨b, 0, none⟩)) ∧ Db w' b q r f g (fmtPg limit) St.empty ∧ Dev w' g S (fmtDev n.toNat limit) ∧ (∀ x ∈ [b, q, r, f] ++ S, w.heap.size ≤ x) ∧ (∀ x ∈ [b, q, r, f], x ∉ S) ∧ Below w.heap.size w w'
set_option maxHeartbeats 16000000 in
theorem lbegin20 (w : World) (hr : RowAt w) : Calls Tryz.prog 11 #[.int .i64 20] w (KBeginPost 80 20 w) := by
  have HR := Lib.hid hr
  have HN : Hid (∀ W, Calls Tryz.prog 37 #[.int .i64 80] W (NewPost 80 W)) := fun W => dnew_any 80 W (by decide) (by decide)
  have HF : Hid (formatD (DevS.new 80) 20 = (fmtDev 80 20, 0)) := format_new (by omega) (by omega)
  have HO : Hid (openR (fmtDev 80 20) = 0 ∧ openP (fmtDev 80 20) = fmtPg 20) := fmt_open (by omega) (by omega)
  clear hr
  go_enter Tryz.func11, Tryz.ntmps11
  go_wp2_with fail
  (go_at_call 37)
  refine (HN.out _).mono ?_
  rintro e w1 ⟨g, S1, rfl, hd1, hbel1, hS1⟩
  have HD1 := Lib.hid hd1
  have H1 : Hid (Below w.heap.size w w1 ∧ ∀ b ∈ S1, w.heap.size ≤ b) := ⟨hbel1, hS1⟩
  clear hd1 hbel1 hS1
  go_wp2_with fail
  (go_at_call 38)
  refine (kvformat_any ((format_to HD1.out 20 (HR.out.below H1.out.1) (row_not HR.out H1.out.2) (by decide) ⟨by decide, by decide, by simp [DevS.new]⟩ 0 HF.out).mono (fun e w' h => ⟨⟨_, h.1⟩, h⟩))).mono ?_
  rintro e w2 ⟨rfl, hp2⟩
  obtain ⟨S2, hd2, hbel2, hS2⟩ := post_new H1.out.1 H1.out.2 hp2
  have HD2 := Lib.hid hd2
  have H2 : Hid (Below w.heap.size w w2 ∧ ∀ b ∈ S2, w.heap.size ≤ b) := ⟨hbel2, hS2⟩
  clear hd2 hbel2 hS2 hp2
  go_wp2_with fail
  (go_at_call 39)
  refine (kvopen_to HD2.out (HR.out.below H2.out.1) (by decide) HO.out.1 HO.out.2 rfl).mono ?_
  rintro e w3 ⟨b, q, r, f, rfl, hdb, hnew, hbel3⟩
  have HM : Hid (Db w3 b q r f g (fmtPg 20) St.empty ∧ Dev w3 g S2 (fmtDev 80 20) ∧ (∀ x ∈ [b, q, r, f] ++ S2, w.heap.size ≤ x) ∧ (∀ x ∈ [b, q, r, f], x ∉ S2) ∧ Below w.heap.size w w3) := ⟨hdb, HD2.out.below hbel3, fun x hx => by
      rcases List.mem_append.1 hx with h | h
      · exact Nat.le_trans H2.out.1.size (hnew x h)
      · exact H2.out.2 x h, fun x hx hs => by have h1 := hnew x hx; have h2 := HD2.out.old _ hs; omega, H2.out.1.trans (hbel3.mono H2.out.1.size)⟩
  clear hdb hnew hbel3
  go_wp2_with fail
  go_ret
  exact ⟨b, q, r, f, g, S2, rfl, HM.out⟩
end Go.Proofs.YtkkgiajjdcpicaaGreatDoor
