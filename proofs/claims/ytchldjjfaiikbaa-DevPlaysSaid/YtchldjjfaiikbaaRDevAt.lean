/- The reference's device in memory: its six cells, the sectors' row, the row of what waits (two cells each). Contracts: Step, Cut, Fuse. -/
import Derived.Test.YtchldjjfaiikbaaDevTells
namespace Go.Proofs.Ytchldjjfaiikbaa
open Go.RowKit
open Go.PlainAid
set_option maxRecDepth 100000
set_option linter.unusedVariables false
set_option linter.unusedSimpArgs false

/-- What waits, as cells. -/
def waitCells (row : List (Nat × ByteArray)) : List Value := row.flatMap fun x => [.int .i64 (x.1 : Int), .string x.2]
theorem waitCells_len : ∀ row : List (Nat × ByteArray), (waitCells row).length = row.length * 2
  | [] => rfl
  | x :: r => by have := waitCells_len r; simp [waitCells] at this ⊢; omega
theorem waitCells_app (a b : List (Nat × ByteArray)) : waitCells (a ++ b) = waitCells a ++ waitCells b := by simp [waitCells]
theorem waitCells_at : ∀ (row : List (Nat × ByteArray)) (k : Nat) (x : Nat × ByteArray), row[k]? = some x → (waitCells row)[k * 2]? = some (.int .i64 (x.1 : Int)) ∧ (waitCells row)[k * 2 + 1]? = some (.string x.2)
  | [], k, x, h => by simp at h
  | y :: r, 0, x, h => by
    simp at h
    subst h
    simp [waitCells]
  | y :: r, k + 1, x, h => by
    have h1 := waitCells_at r k x (by simpa using h)
    have e : waitCells (y :: r) = .int .i64 (y.1 : Int) :: .string y.2 :: waitCells r := rfl
    rw [e, show (k + 1) * 2 = k * 2 + 1 + 1 by omega, show k * 2 + 1 + 1 + 1 = (k * 2 + 1) + 1 + 1 by omega]
    simpa using h1

/-- The six cells. -/
abbrev rCells (v0 v1 : Value) (off : Bool) (fuse steps writes : Int) : Array Value := #[v0, v1, .bool off, .int .i64 fuse, .int .i64 steps, .int .i64 writes]

/-- Pointer g is the reference's device that is D; all its blocks are in S. -/
structure RDevAt (w : World) (g : Nat) (S : List Nat) (D : DevS) (l cl : Nat) (A : Option Addr) (cr : Nat) : Prop where
  ok : D.Ok
  cells : Bk w g 50 (rCells (.slice (some ⟨l, 0, none⟩) D.sec.length cl) (.slice A D.row.length cr) D.off D.fuse D.steps D.writes)
  sec : w.ownsRow 0 9 1 (.slice (some ⟨l, 0, none⟩) D.sec.length cl) D.sec.length (strs D.sec)
  row : w.ownsRow 0 66 2 (.slice A D.row.length cr) D.row.length (waitCells D.row)
  inS : g ∈ S ∧ l ∈ S ∧ ∀ b, (Value.slice A D.row.length cr).ownBlock = some b → b ∈ S
  old : ∀ b ∈ S, b < w.heap.size

def RDev (w : World) (g : Nat) (S : List Nat) (D : DevS) : Prop := ∃ l cl A cr, RDevAt w g S D l cl A cr

theorem ownBlock_lit (l n c : Nat) : (Value.slice (some ⟨l, 0, none⟩) n c).ownBlock = some l := rfl
theorem RDevAt.off {w w' : World} {g : Nat} {S T : List Nat} {D : DevS} {l cl : Nat} {A : Option Addr} {cr : Nat} (h : RDevAt w g S D l cl A cr) (ho : Off T w w') (hT : ∀ b ∈ S, b ∉ T) : RDevAt w' g S D l cl A cr := by
  obtain ⟨i1, i2, i3⟩ := h.inS
  exact ⟨h.ok, ho.bk h.cells (hT _ i1), ho.own h.sec (fun b hb => by
    rw [ownBlock_lit] at hb
    injection hb with hb
    subst hb
    exact hT _ i2), ho.own h.row (fun b hb => hT _ (i3 b hb)), h.inS, fun b hb => Nat.lt_of_lt_of_le (h.old b hb) ho.size⟩
theorem RDev.off {w w' : World} {g : Nat} {S T : List Nat} {D : DevS} (h : RDev w g S D) (ho : Off T w w') (hT : ∀ b ∈ S, b ∉ T) : RDev w' g S D := by
  obtain ⟨l, cl, A, cr, h⟩ := h
  exact ⟨l, cl, A, cr, h.off ho hT⟩
theorem RDev.ok {w : World} {g : Nat} {S : List Nat} {D : DevS} (h : RDev w g S D) : D.Ok := by
  obtain ⟨l, cl, A, cr, h⟩ := h
  exact h.ok
theorem RDev.old {w : World} {g : Nat} {S : List Nat} {D : DevS} (h : RDev w g S D) : ∀ b ∈ S, b < w.heap.size := by
  obtain ⟨l, cl, A, cr, h⟩ := h
  exact h.old
theorem RDev.mem {w : World} {g : Nat} {S : List Nat} {D : DevS} (h : RDev w g S D) : g ∈ S := by
  obtain ⟨l, cl, A, cr, h⟩ := h
  exact h.inS.1
theorem RDev.below {w w' : World} {g : Nat} {S : List Nat} {D : DevS} (h : RDev w g S D) (hb : Below w.heap.size w w') : RDev w' g S D := h.off (Off.of_below hb []) (fun _ _ => List.not_mem_nil)
/-- The device's own cells turned, nothing else. -/
theorem RDevAt.turned {w w1 : World} {g : Nat} {S : List Nat} {D D1 : DevS} {l cl : Nat} {A : Option Addr} {cr : Nat} (h : RDevAt w g S D l cl A cr) (hok : D1.Ok) (hs : D1.sec = D.sec) (hr : D1.row = D.row)
    (hb : Bk w1 g 50 (rCells (.slice (some ⟨l, 0, none⟩) D.sec.length cl) (.slice A D.row.length cr) D1.off D1.fuse D1.steps D1.writes)) (ho : Off [g] w w1) : RDevAt w1 g S D1 l cl A cr := by
  refine ⟨hok, by rw [hs, hr]; exact hb, ?_, ?_, by rw [hr]; exact h.inS, fun b hb => Nat.lt_of_lt_of_le (h.old b hb) ho.size⟩
  · rw [hs]
    exact ho.own h.sec (fun b hb => by
      have := own_ne h.sec h.cells (by decide)
      rw [hb] at this
      simp
      exact fun e => this (by rw [e]))
  · rw [hr]
    exact ho.own h.row (fun b hb => by
      have := own_ne h.row h.cells (by decide)
      rw [hb] at this
      simp
      exact fun e => this (by rw [e]))

def RDevPost (g : Nat) (S : List Nat) (D' : DevS) (r : Value) (w : World) (e : Ending) (w' : World) : Prop :=
  e = .returned r ∧ ∃ S', RDev w' g S' D' ∧ Off S w w' ∧ Fresh w S S'
theorem rdevPost_of {g : Nat} {S : List Nat} {D D' : DevS} {r r' : Value} {w w' : World} (hD : D = D') (hr : r = r') (h : ∃ S', RDev w' g S' D' ∧ Off S w w' ∧ Fresh w S S') : RDevPost g S D r w (.returned r') w' := by
  subst hD
  subst hr
  exact ⟨rfl, h⟩

/-- A row of elements of two cells as a slice's parts. -/
theorem own_slice2 {w : World} {base : Nat} {e : TypeId} {n : Nat} {v : Value} {xs : List Value} (h : w.ownsRow base e 2 v n xs) :
    ∃ (A : Option Addr) (c : Nat), v = .slice A n c ∧ n ≤ c ∧ c ≤ maxLen ∧ ∀ j u, xs[j]? = some u → ∃ b, A = some ⟨b, 0, none⟩ ∧ b < w.heap.size ∧ w.cell? ⟨b, j, none⟩ = some u := by
  have h0 := h
  obtain ⟨h1, h2⟩ := h
  rcases h2 with ⟨rfl, rfl⟩ | ⟨g, cap, cur, rfl, hb, hh, hc, hm, r⟩
  · exact ⟨none, 0, rfl, Nat.le_refl _, Nat.zero_le _, fun j u hu => by
      obtain rfl : xs = [] := List.eq_nil_of_length_eq_zero (by omega)
      simp at hu⟩
  · refine ⟨some ⟨g, 0, none⟩, cap, rfl, hc, hm, fun j u hu => ⟨g, rfl, lt_of_block hh, ?_⟩⟩
    have := h0.cells (g := g) rfl j u hu
    rwa [add_zero_addr] at this

theorem rstep_off (g : Nat) (v0 v1 : Value) (fuse steps writes : Int) (w : World) (h : Bk w g 50 (rCells v0 v1 true fuse steps writes)) :
    Calls Try.prog 42 #[ptr g] w fun e w' => e = .returned (.bool false) ∧ Bk w' g 50 (rCells v0 v1 true fuse steps writes) ∧ Off [g] w w' := by
  have HB := Lib.hid h
  obtain ⟨c0, c1, c2, c3, c4, c5⟩ := h.six
  clear h c0 c1
  go_enter Try.func42, Try.ntmps42
  go_wp2_with fail
  go_ret
  exact ⟨rfl, HB.out, Off.refl _ _⟩
set_option maxHeartbeats 4000000 in
theorem rstep_one (g : Nat) (v0 v1 : Value) (steps writes : Int) (w : World) (h : Bk w g 50 (rCells v0 v1 false 1 steps writes)) (h1 : 0 ≤ steps) (h2 : steps ≤ 1000000000) :
    Calls Try.prog 42 #[ptr g] w fun e w' => e = .returned (.bool false) ∧ Bk w' g 50 (rCells v0 v1 true 0 (steps + 1) writes) ∧ Off [g] w w' := by
  have HB := Lib.hid h
  obtain ⟨c0, c1, c2, c3, c4, c5⟩ := h.six
  have g2 := h.frozen 2
  have g3 := h.frozen 3
  have g4 := h.frozen 4
  clear h c0 c1
  go_enter Try.func42, Try.ntmps42
  go_wp2_with fail
  go_ret
  exact ⟨rfl, ((HB.out.put 4 _).put 2 _).put 3 _, (((Off.refl _ _).setCell (.inl (by simp)) _).setCell (.inl (by simp)) _).setCell (.inl (by simp)) _⟩
set_option maxHeartbeats 4000000 in
theorem rstep_zero (g : Nat) (v0 v1 : Value) (steps writes : Int) (w : World) (h : Bk w g 50 (rCells v0 v1 false 0 steps writes)) (h1 : 0 ≤ steps) (h2 : steps ≤ 1000000000) :
    Calls Try.prog 42 #[ptr g] w fun e w' => e = .returned (.bool true) ∧ Bk w' g 50 (rCells v0 v1 false 0 (steps + 1) writes) ∧ Off [g] w w' := by
  have HB := Lib.hid h
  obtain ⟨c0, c1, c2, c3, c4, c5⟩ := h.six
  have g3 := h.frozen 3
  have g4 := h.frozen 4
  clear h c0 c1
  go_enter Try.func42, Try.ntmps42
  go_wp2_with fail
  go_ret
  exact ⟨rfl, HB.out.put 4 _, (Off.refl _ _).setCell (.inl (by simp)) _⟩
set_option maxHeartbeats 4000000 in
theorem rstep_more (g : Nat) (v0 v1 : Value) (fuse steps writes : Int) (w : World) (h : Bk w g 50 (rCells v0 v1 false fuse steps writes)) (h1 : 0 ≤ steps) (h2 : steps ≤ 1000000000) (f0 : 2 ≤ fuse) (f1 : fuse ≤ 9223372036854775807) :
    Calls Try.prog 42 #[ptr g] w fun e w' => e = .returned (.bool true) ∧ Bk w' g 50 (rCells v0 v1 false (fuse - 1) (steps + 1) writes) ∧ Off [g] w w' := by
  have HB := Lib.hid h
  obtain ⟨c0, c1, c2, c3, c4, c5⟩ := h.six
  have g3 := h.frozen 3
  have g4 := h.frozen 4
  have q1 : (fuse == 1) = false := by simp; omega
  have q4 : decide ((1 : Int) < fuse) = true := by simp; omega
  have q5 : IntKind.i64.wrap (fuse - 1) = fuse - 1 := IntWalk.i64_in _ (by omega)
  clear h c0 c1
  go_enter Try.func42, Try.ntmps42
  go_wp2_with fail
  go_ret
  exact ⟨rfl, (HB.out.put 4 _).put 3 _, ((Off.refl _ _).setCell (.inl (by simp)) _).setCell (.inl (by simp)) _⟩

def RStepPost (g : Nat) (S : List Nat) (q : Bool) (D' : DevS) (l cl : Nat) (A : Option Addr) (cr : Nat) (w : World) (e : Ending) (w' : World) : Prop := e = .returned (.bool q) ∧ RDevAt w' g S D' l cl A cr ∧ Off [g] w w'
theorem rstep_any {g : Nat} {S : List Nat} {D : DevS} {l cl : Nat} {A : Option Addr} {cr : Nat} {w : World} (h : RDevAt w g S D l cl A cr) (hs : D.steps ≤ 1000000000) :
    Calls Try.prog 42 #[ptr g] w (RStepPost g S D.stepOk D.stepped l cl A cr w) := by
  have h0 := h.ok.steps0
  have f0 := h.ok.fuse0
  have f1 := h.ok.fuse1
  have fin : ∀ (e : Ending) (w' : World), (e = .returned (.bool D.stepOk) ∧ Bk w' g 50 (rCells (.slice (some ⟨l, 0, none⟩) D.sec.length cl) (.slice A D.row.length cr) D.stepped.off D.stepped.fuse D.stepped.steps D.stepped.writes) ∧ Off [g] w w') → RStepPost g S D.stepOk D.stepped l cl A cr w e w' :=
    fun e w' ⟨h1, h2, h3⟩ => ⟨h1, h.turned h.ok.stepped D.stepped_sec D.stepped_row h2 h3, h3⟩
  have hc := h.cells
  refine Calls.mono ?_ fin
  clear fin h
  obtain ⟨sec, row, off, fuse, steps, writes⟩ := D
  unfold DevS.stepOk DevS.stepped
  simp only at *
  cases off with
  | true => exact rstep_off g _ _ fuse steps writes w hc
  | false =>
    by_cases c1 : fuse = 1
    · subst c1; exact rstep_one g _ _ steps writes w hc h0 hs
    · by_cases c2 : fuse = 0
      · subst c2; exact rstep_zero g _ _ steps writes w hc h0 hs
      · have e1 : (fuse == 1) = false := by simpa using c1
        have e2 : max 0 (fuse - 1) = fuse - 1 := by omega
        simp only [e1, e2]
        exact rstep_more g _ _ fuse steps writes w hc h0 hs (by omega) f1

theorem rcut_any {g : Nat} {S : List Nat} {D : DevS} {w : World} (hd : RDev w g S D) :
    Calls Try.prog 36 #[ptr g] w (RDevPost g S D.cut.1 (.int .i64 D.cut.2) w) := by
  have hd0 := Lib.hid hd
  obtain ⟨l, cl, A, cr, h⟩ := hd
  have HD := Lib.hid h
  obtain ⟨c0, c1, c2, c3, c4, c5⟩ := h.cells.six
  have g2 := h.cells.frozen 2
  have g3 := h.cells.frozen 3
  clear h c0 c1
  cases hoff : D.off with
  | true =>
    have HL : Hid (D.cut = (D, 6)) := show _ = _ by unfold DevS.cut; rw [hoff]; rfl
    rw [hoff] at c2
    clear hoff
    go_enter Try.func36, Try.ntmps36
    go_wp2_with fail
    go_ret
    exact rdevPost_of (by rw [HL.out]) (by rw [HL.out]; rfl) ⟨S, hd0.out, Off.refl _ _, Fresh.refl _ _⟩
  | false =>
    have HL : Hid (D.cut = ({ D with off := true, fuse := 0 }, 0)) := show _ = _ by unfold DevS.cut; rw [hoff]; rfl
    rw [hoff] at c2
    clear hoff
    go_enter Try.func36, Try.ntmps36
    go_wp2_with fail
    go_ret
    have ho : Off [g] w ((w.setCell ⟨g, 2, none⟩ (.bool true)).setCell ⟨g, 3, none⟩ (.int .i64 0)) := ((Off.refl _ _).setCell (.inl (by simp)) _).setCell (.inl (by simp)) _
    exact rdevPost_of (D' := { D with off := true, fuse := 0 }) (by rw [HL.out]) (by rw [HL.out]; rfl) ⟨S, ⟨l, cl, A, cr, HD.out.turned (by have := HD.out.ok.cut; rw [HL.out] at this; exact this) rfl rfl ((HD.out.cells.put 2 _).put 3 _) ho⟩, ho.mono (fun b hb => .inl (by simp at hb; rw [hb]; exact HD.out.inS.1)), Fresh.refl _ _⟩

theorem rfuse_any {g : Nat} {S : List Nat} {D : DevS} {w : World} (hd : RDev w g S D) (n : Int) (hn : n ≤ 9223372036854775807) :
    Calls Try.prog 35 #[ptr g, .int .i64 n] w (RDevPost g S (D.setFuse n).1 (.int .i64 (D.setFuse n).2) w) := by
  have hd0 := Lib.hid hd
  obtain ⟨l, cl, A, cr, h⟩ := hd
  have HD := Lib.hid h
  have HN := Lib.hid hn
  obtain ⟨c0, c1, c2, c3, c4, c5⟩ := h.cells.six
  have g3 := h.cells.frozen 3
  clear h c0 c1 hn
  cases hoff : D.off with
  | true =>
    have HL : Hid (D.setFuse n = (D, 6)) := show _ = _ by unfold DevS.setFuse; rw [hoff]; rfl
    rw [hoff] at c2
    clear hoff
    go_enter Try.func35, Try.ntmps35
    go_wp2_with fail
    go_ret
    exact rdevPost_of (by rw [HL.out]) (by rw [HL.out]; rfl) ⟨S, hd0.out, Off.refl _ _, Fresh.refl _ _⟩
  | false =>
    have HL : Hid (D.setFuse n = ({ D with fuse := max 0 n }, 0)) := show _ = _ by unfold DevS.setFuse; rw [hoff]; rfl
    rw [hoff] at c2
    clear hoff
    have hq : decide (n < 1) = true ∨ decide (n < 1) = false := by cases decide (n < 1) <;> simp
    rcases hq with q0 | q0
    · have HM : Hid (max 0 n = 0) := show _ = _ by simp at q0; omega
      go_enter Try.func35, Try.ntmps35
      go_wp2_with fail
      go_ret
      have ho : Off [g] w ((w.setCell ⟨g, 3, none⟩ (.int .i64 n)).setCell ⟨g, 3, none⟩ (.int .i64 0)) := ((Off.refl _ _).setCell (.inl (by simp)) _).setCell (.inl (by simp)) _
      exact rdevPost_of (D' := { D with fuse := max 0 n }) (by rw [HL.out]) (by rw [HL.out]; rfl) ⟨S, ⟨l, cl, A, cr, HD.out.turned (by have := HD.out.ok.setFuse HN.out; rw [HL.out] at this; exact this) rfl rfl (by show Bk _ g _ (rCells _ _ _ (max 0 n) _ _); rw [HM.out]; exact (HD.out.cells.put 3 _).put 3 _) ho⟩, ho.mono (fun b hb => .inl (by simp at hb; rw [hb]; exact HD.out.inS.1)), Fresh.refl _ _⟩
    · have HM : Hid (max 0 n = n) := show _ = _ by simp at q0; omega
      go_enter Try.func35, Try.ntmps35
      go_wp2_with fail
      go_ret
      have ho : Off [g] w (w.setCell ⟨g, 3, none⟩ (.int .i64 n)) := (Off.refl _ _).setCell (.inl (by simp)) _
      exact rdevPost_of (D' := { D with fuse := max 0 n }) (by rw [HL.out]) (by rw [HL.out]; rfl) ⟨S, ⟨l, cl, A, cr, HD.out.turned (by have := HD.out.ok.setFuse HN.out; rw [HL.out] at this; exact this) rfl rfl (by show Bk _ g _ (rCells _ _ _ (max 0 n) _ _); rw [HM.out]; exact HD.out.cells.put 3 _) ho⟩, ho.mono (fun b hb => .inl (by simp at hb; rw [hb]; exact HD.out.inS.1)), Fresh.refl _ _⟩
end Go.Proofs.Ytchldjjfaiikbaa
