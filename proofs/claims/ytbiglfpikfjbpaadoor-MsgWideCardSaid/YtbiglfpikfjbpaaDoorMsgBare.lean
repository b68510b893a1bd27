/- Contracts of msg: within, bare. -/
import Derived.Test.YtbiglfpikfjbpaaDoorBerC
import Derived.Test.YtbiglfpikfjbpaaDoorPlainMsg
import Derived.Test.YtbiglfpikfjbpaaDoorWide
import Derived.WalkSpells
import Derived.Outline
namespace Go.Proofs.YtbiglfpikfjbpaaDoor
open Go.RowKit
set_option maxRecDepth 100000
set_option linter.unusedVariables false
set_option linter.unusedSimpArgs false

def TellsT (q : Bool) (w : World) (e : Ending) (w' : World) : Prop := e = .returned (.bool q) ∧ w = w'
theorem tellsT_of {q q' : Bool} {w : World} (h : q = q') : TellsT q w (.returned (.bool q')) w := by subst h; exact ⟨rfl, rfl⟩
def inB (n lo hi : Int) : Bool := decide (lo ≤ n) && decide (n ≤ hi)
theorem within_any (n lo hi : Int) (w : World) : Calls Tryd.prog 36 #[.int .i64 n, .int .i64 lo, .int .i64 hi] w (TellsT (inB n lo hi) w) := by
  obtain ⟨q, hq⟩ : ∃ q, q = inB n lo hi := ⟨_, rfl⟩
  rw [← hq]
  have HQ := Lib.hid hq
  clear hq
  have hcs : (decide (lo ≤ n) = false ∧ Hid (q = false)) ∨ (decide (lo ≤ n) = true ∧ decide (n ≤ hi) = false ∧ Hid (q = false)) ∨ (decide (lo ≤ n) = true ∧ decide (n ≤ hi) = true ∧ Hid (q = true)) := by
    have h := HQ.out
    unfold inB at h
    cases h1 : decide (lo ≤ n) <;> cases h2 : decide (n ≤ hi) <;> rw [h1, h2] at h <;> simp [h, Hid]
  rcases hcs with ⟨q0, HB⟩ | ⟨q0, q1, HB⟩ | ⟨q0, q1, HB⟩
  all_goals
    go_enter Tryd.func36, Tryd.ntmps36
    go_wp2_with fail
    go_ret
    exact tellsT_of HB.out

theorem size_msg : (Tryd.prog.info? 30).map (·.size) = some 31 := by kernel_rfl
theorem msg_one (m : MC) : m.cells.all (·.oneCell') = true := by unfold MC.cells; simp [Value.oneCell']
theorem msg_size (m : MC) : m.cells.size = 31 := rfl
def TellsM (m : MC) (w : World) (e : Ending) (w' : World) : Prop := e = .returned (.agg m.cells) ∧ Below w.heap.size w w'

set_option maxHeartbeats 4000000 in
theorem bare_any (m : MC) (w : World) : Calls Tryd.prog 39 #[.agg m.cells] w (TellsM m.bare w) := by
  have HS := Lib.hid size_msg
  obtain ⟨r, hr⟩ : ∃ r, r = m.bare := ⟨_, rfl⟩
  rw [← hr]
  have HZ : Hid (r.cells.all (·.oneCell') = true) := msg_one _
  have HSZ : Hid (r.cells.size = 31) := msg_size _
  obtain ⟨z, hz⟩ : ∃ z, z = r.cells := ⟨_, rfl⟩
  unfold TellsM
  rw [← hz]
  rw [← hz] at HZ HSZ
  obtain ⟨id, op, version, name, sasl, secret, kind, has, value, code, text, scope, deref, size, time, types, ⟨fkind, fattr, fvalue, ffirst, ⟨fA, fn, fc⟩, flast, ⟨kA, kn, kc⟩⟩, ⟨aA, an, ac⟩, ⟨lA, ln, lc⟩, ⟨mA, mn, mc⟩, rdn, old, ⟨dA, dn, dc⟩, other, ⟨oA, on, oc⟩⟩ := m
  have hops : (op = 0 ∧ sasl = true) ∨ (op = 0 ∧ sasl = false) ∨ op = 3 ∨ op = 4 ∨ op = 8 ∨ op = 6 ∨ op = 10 ∨ op = 12 ∨ op = 14 ∨ op = 16 ∨ op = 23 ∨ op = 2 ∨ op = 24 ∨ (op ≠ 0 ∧ op ≠ 3 ∧ op ≠ 4 ∧ op ≠ 8 ∧ op ≠ 6 ∧ op ≠ 10 ∧ op ≠ 12 ∧ op ≠ 14 ∧ op ≠ 16 ∧ op ≠ 23 ∧ op ≠ 2 ∧ op ≠ 24) := by
    cases sasl <;> simp <;> omega
  rcases hops with ⟨h, h'⟩ | ⟨h, h'⟩ | h | h | h | h | h | h | h | h | h | h | h | h
  rotate_right
  · obtain ⟨n0, n3, n4, n8, n6, n10, n12, n14, n16, n23, n2, n24⟩ := h
    have b0 : (op == 0) = false := by simp [n0]
    have b3 : (op == 3) = false := by simp [n3]
    have b4 : (op == 4) = false := by simp [n4]
    have b8 : (op == 8) = false := by simp [n8]
    have b6 : (op == 6) = false := by simp [n6]
    have b10 : (op == 10) = false := by simp [n10]
    have b12 : (op == 12) = false := by simp [n12]
    have b14 : (op == 14) = false := by simp [n14]
    have b16 : (op == 16) = false := by simp [n16]
    have b23 : (op == 23) = false := by simp [n23]
    have b2 : (op == 2) = false := by simp [n2]
    have b24 : (op == 24) = false := by simp [n24]
    simp only [MC.bare, n0, n3, n4, n8, n6, n10, n12, n14, n16, n23, n2, n24, if_false, false_or] at hr
    rw [hr] at hz
    unfold MC.cells Rw.none at hz
    simp only at hz
    have HZE := Lib.hid hz
    clear hz hr n0 n3 n4 n8 n6 n10 n12 n14 n16 n23 n2 n24
    unfold MC.cells
    simp only
    go_enter Tryd.func39, Tryd.ntmps39
    go_wp2_with (first
      | (refine wpList_load_row rfl 30 (.tmp 1) rfl w.heap.size rfl 30 z (0, 0) _ (by rw [HZE.out]; exact heap_alloc2_old w _ _) Tryd.underlying30 rfl (by rw [HSZ.out]; exact HS.out) ?_)
      | (refine wpList_store_wide rfl 30 (.tmp 2) (.tmp 71) rfl (w.heap.size + 1) rfl z rfl 30 _ (heap_alloc2_new w _ _) (by rw [HSZ.out]; rfl) (by rw [HSZ.out]; exact HS.out) HZ.out ?_; intro w3 hb3 ho3; have HB3 := Lib.hid hb3; have HO3 := Lib.hid ho3; clear hb3 ho3)
      | fail)
    refine bodyPost_ret (results_cell_row Tryd.results39 _ _ (w.heap.size + 1) 30 z (0, 0) _ rfl HB3.out Tryd.underlying30 rfl (by rw [HSZ.out]; exact HS.out)) rfl ⟨rfl, ?_⟩
    exact ((((Below.refl _ w).alloc (Nat.le_refl _) _).alloc (by simp) _).trans (HO3.out.below (by simp; omega) (by simp)))
  all_goals
    subst h
    try subst h'
    simp [MC.bare] at hr
    rw [hr] at hz
    unfold MC.cells at hz
    simp only [FC.zero, Rw.none] at hz
    have HZE := Lib.hid hz
    clear hz hr
    unfold MC.cells
    simp only
    go_enter Tryd.func39, Tryd.ntmps39
    go_wp2_with (first
      | (refine wpList_load_row rfl 30 (.tmp 1) rfl w.heap.size rfl 30 z (0, 0) _ (by rw [HZE.out]; exact heap_alloc2_old w _ _) Tryd.underlying30 rfl (by rw [HSZ.out]; exact HS.out) ?_)
      | (refine wpList_store_wide rfl 30 (.tmp 2) (.tmp 71) rfl (w.heap.size + 1) rfl z rfl 30 _ (heap_alloc2_new w _ _) (by rw [HSZ.out]; rfl) (by rw [HSZ.out]; exact HS.out) HZ.out ?_; intro w3 hb3 ho3; have HB3 := Lib.hid hb3; have HO3 := Lib.hid ho3; clear hb3 ho3)
      | fail)
    refine bodyPost_ret (results_cell_row Tryd.results39 _ _ (w.heap.size + 1) 30 z (0, 0) _ rfl HB3.out Tryd.underlying30 rfl (by rw [HSZ.out]; exact HS.out)) rfl ⟨rfl, ?_⟩
    exact ((((Below.refl _ w).alloc (Nat.le_refl _) _).alloc (by simp) _).trans (HO3.out.below (by simp; omega) (by simp)))
end Go.Proofs.YtbiglfpikfjbpaaDoor
