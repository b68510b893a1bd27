/- Structs of many cells: stored whole, a law of one step. Over any program. -/
import Derived.Test.YtbiglfpikfjbpaaDoorBerA
import Derived.Deep.MidRow
namespace Go.Proofs.YtbiglfpikfjbpaaDoor
open Go.RowKit

theorem setCells_heap_other (vs : List Value) (b : Nat) : ∀ (o : Nat) (w : World) (k : Nat), k ≠ b → (w.setCells b o vs).heap[k]? = w.heap[k]? := by
  induction vs with
  | nil => intro o w k _; rfl
  | cons v vs ih => intro o w k hk; exact (ih (o + 1) (w.setCell ⟨b, o, none⟩ v) k hk).trans (Below.heap_setCell w _ v k (fun e => hk e))
theorem setCells_rest (vs : List Value) (b : Nat) : ∀ (o : Nat) (w : World), (w.setCells b o vs).os = w.os ∧ (w.setCells b o vs).tape = w.tape ∧ (w.setCells b o vs).output = w.output ∧ (w.setCells b o vs).heap.size = w.heap.size := by
  induction vs with
  | nil => intro o w; exact ⟨rfl, rfl, rfl, rfl⟩
  | cons v vs ih =>
    intro o w
    obtain ⟨h1, h2, h3, h4⟩ := ih (o + 1) (w.setCell ⟨b, o, none⟩ v)
    exact ⟨h1, h2, h3, h4.trans (by simp [World.setCell])⟩
theorem setCells_whole (vs : List Value) (b : Nat) (t : TypeId) : ∀ (pre : List Value) (old : List Value) (w : World), old.length = vs.length → Bk w b t (pre ++ old).toArray → Bk (w.setCells b pre.length vs) b t (pre ++ vs).toArray := by
  induction vs with
  | nil =>
    intro pre old w hl hb
    obtain rfl : old = [] := List.eq_nil_of_length_eq_zero (by simpa using hl)
    exact hb
  | cons v vs ih =>
    intro pre old w hl hb
    cases old with
    | nil => simp at hl
    | cons x old =>
      have h1 := hb.put pre.length v
      have e : (pre ++ x :: old).toArray.setIfInBounds pre.length v = ((pre ++ [v]) ++ old).toArray := by simp
      rw [e] at h1
      have h2 := ih (pre ++ [v]) old (w.setCell ⟨b, pre.length, none⟩ v) (by simpa using hl) h1
      have e2 : (pre ++ [v]).length = pre.length + 1 := by simp
      rw [e2] at h2
      have e3 : pre ++ [v] ++ vs = pre ++ v :: vs := by simp
      rw [e3] at h2
      exact h2
theorem setCells_off (vs : List Value) (b o : Nat) (w : World) : Off [b] w (w.setCells b o vs) := by
  obtain ⟨h1, h2, h3, h4⟩ := setCells_rest vs b o w
  exact ⟨h1, h2, h3, by omega, fun k _ hk => setCells_heap_other vs b o w k (by simpa using hk)⟩

/-- A value of many cells goes into a block of its own. -/
theorem wpList_store_wide {P : Program} {ops : Array Oper} {rest : List Oper} {op : Oper} {a : Act} {w : World} {Q : Exit → Act → World → Prop} (hgd : op.guard = none) (ty : TypeId) (x y : Operand) (ho : op.op = .store ty x y)
    (b : Nat) (hx : a.eval x = .pointer (some ⟨b, 0, none⟩)) (cells : Array Value) (hy : a.eval y = .agg cells) (t : TypeId) (old : Array Value) (hb : Bk w b t old) (hsz : old.size = cells.size)
    (hi : (P.info? ty).map (·.size) = some cells.size) (h1 : cells.all (·.oneCell') = true)
    (h : ∀ w', Bk w' b t cells → Off [b] w w' → wpList P ops Q rest (a.put op.dst undef) w') : wpList P ops Q (op :: rest) a w := by
  refine wpList_store_mid hgd ty x y ho b 0 cells hx hy (fun j hj => ?_) hi h1 (h _ ?_ (setCells_off _ b 0 w))
  · rw [Nat.zero_add]
    exact ⟨by rw [hb.cell j]; simp; omega, hb.frozen j⟩
  · have h2 := setCells_whole cells.toList b t [] old.toList w (by simpa using hsz) (by simpa using hb)
    simpa using h2
end Go.Proofs.YtbiglfpikfjbpaaDoor
