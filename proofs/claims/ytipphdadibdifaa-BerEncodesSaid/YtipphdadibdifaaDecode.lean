/- Contract of ber.Decode: it catches what value throws. -/
import Derived.Test.YtipphdadibdifaaValue2
import Derived.Defers
import Derived.Recover
import Derived.Laws.Pointers
namespace Go.Proofs.Ytipphdadibdifaa
open Go.RowKit
open Go.PlainAid

/-- The three results of Decode in memory. -/
def Three (w : World) (bt : Nat) (cs : Array Value) (n er : Int) : Prop :=
  Bk w bt 44 cs ∧ Bk w (bt + 1) 3 #[.int .i64 n] ∧ Bk w (bt + 2) 30 #[.int .i64 er]

theorem assert_trouble (er : Int) (W : World) : (Instr.typeAssert (.iface 72 (.int .i64 er)) 20 72 false).run Try.prog W = .ok (.int .i64 er) W := by kernel_rfl

theorem Three.drew {w : World} {b : Nat} {cs : Array Value} {n e0 : Int} (h : Three w b cs n e0) : Three w.drew b cs n e0 := h

theorem three_put {w : World} {b : Nat} {c0 c1 c2 c3 c4 : Value} {n e0 : Int} (h : Three w b #[c0, c1, c2, c3, c4] n e0) (m er : Int) :
    Three (((((((w.setCell ⟨b, 0, none⟩ (.int .i64 0)).setCell ⟨b, 1, none⟩ (.bool false)).setCell ⟨b, 2, none⟩ (.int .i64 0)).setCell ⟨b, 3, none⟩ (.string ⟨#[]⟩)).setCell ⟨b, 4, none⟩ (.slice none 0 0)).setCell ⟨b + 1, 0, none⟩ (.int .i64 m)).setCell ⟨b + 2, 0, none⟩ (.int .i64 er)) b (flat 0 0 ⟨#[]⟩) m er ∧
    Off [b, b + 1, b + 2] w (((((((w.setCell ⟨b, 0, none⟩ (.int .i64 0)).setCell ⟨b, 1, none⟩ (.bool false)).setCell ⟨b, 2, none⟩ (.int .i64 0)).setCell ⟨b, 3, none⟩ (.string ⟨#[]⟩)).setCell ⟨b, 4, none⟩ (.slice none 0 0)).setCell ⟨b + 1, 0, none⟩ (.int .i64 m)).setCell ⟨b + 2, 0, none⟩ (.int .i64 er)) := by
  obtain ⟨h0, h1, h2⟩ := h
  refine ⟨⟨?_, ?_, ?_⟩, ?_⟩
  · have := ((((((h0.put 0 (.int .i64 0)).put 1 (.bool false)).put 2 (.int .i64 0)).put 3 (.string ⟨#[]⟩)).put 4 (.slice none 0 0)).far (p := ⟨b + 1, 0, none⟩) (by simp) (.int .i64 m)).far (p := ⟨b + 2, 0, none⟩) (by simp) (.int .i64 er)
    simpa [flat] using this
  · have := ((((((h1.far (p := ⟨b, 0, none⟩) (by simp) (.int .i64 0)).far (p := ⟨b, 1, none⟩) (by simp) (.bool false)).far (p := ⟨b, 2, none⟩) (by simp) (.int .i64 0)).far (p := ⟨b, 3, none⟩) (by simp) (.string ⟨#[]⟩)).far (p := ⟨b, 4, none⟩) (by simp) (.slice none 0 0)).put 0 (.int .i64 m)).far (p := ⟨b + 2, 0, none⟩) (by simp) (.int .i64 er)
    simpa using this
  · have := ((((((h2.far (p := ⟨b, 0, none⟩) (by simp) (.int .i64 0)).far (p := ⟨b, 1, none⟩) (by simp) (.bool false)).far (p := ⟨b, 2, none⟩) (by simp) (.int .i64 0)).far (p := ⟨b, 3, none⟩) (by simp) (.string ⟨#[]⟩)).far (p := ⟨b, 4, none⟩) (by simp) (.slice none 0 0)).far (p := ⟨b + 1, 0, none⟩) (by simp) (.int .i64 m)).put 0 (.int .i64 er)
    simpa using this
  · exact (((((((Off.refl _ _).setCell (Or.inl (by simp)) _).setCell (Or.inl (by simp)) _).setCell (Or.inl (by simp)) _).setCell (Or.inl (by simp)) _).setCell (Or.inl (by simp)) _).setCell (Or.inl (by simp)) _).setCell (Or.inl (by simp)) _

set_option maxRecDepth 100000 in
theorem decode_catch (b : Nat) (c0 c1 c2 c3 c4 : Value) (n e0 : Int) (er : Nat) (w : World) (h3 : Three w b #[c0, c1, c2, c3, c4] n e0) :
    CallsD Try.prog 39 #[.pointer (some ⟨b, 0, none⟩), .pointer (some ⟨b + 1, 0, none⟩), .pointer (some ⟨b + 2, 0, none⟩)] (.panicking [{ v := .iface 72 (.int .i64 er), recovered := false }]) w fun e u' w' =>
      e = .returned (.tuple #[]) ∧ u' = .panicking [{ v := .iface 72 (.int .i64 er), recovered := true }] ∧ Three w' b (flat 0 0 ⟨#[]⟩) 0 er ∧ Off [b, b + 1, b + 2] w w' := by
  obtain ⟨h0, h1, h2⟩ := h3
  obtain ⟨z0, z1, z2, z3, z4⟩ := h0.five
  have y := h1.cell 0
  have x := h2.cell 0
  have f0 := h0.frozen 0
  have f1 := h0.frozen 1
  have f2 := h0.frozen 2
  have f3 := h0.frozen 3
  have f4 := h0.frozen 4
  have fy := h1.frozen 0
  have fx := h2.frozen 0
  simp at x y
  have hta := assert_trouble er
  refine callsD_of_wpS Try.func39 rfl fun c₀ cs hu => ?_
  apply wpS_seq
  apply wpS_region
  simp [wpOpsS, go_sem, recoverD, hu, Try.ntmps39, Exit.thenS]
  refine wpS_of_wp ?_
  have e1 : (#[Value.pointer (some { block := b, off := 0 }), Value.pointer (some { block := b + 1, off := 0 }), Value.pointer (some { block := b + 2, off := 0 })] ++
          ((Array.replicate 7 undef).setIfInBounds 1 (Value.iface 72 (Value.int IntKind.i64 er))).setIfInBounds 0 (Value.iface 72 (Value.int IntKind.i64 er)) : Array Value) =
      #[Value.pointer (some { block := b, off := 0 }), Value.pointer (some { block := b + 1, off := 0 }), Value.pointer (some { block := b + 2, off := 0 }), Value.iface 72 (Value.int IntKind.i64 er), Value.iface 72 (Value.int IntKind.i64 er), undef, undef, undef, undef, undef] := rfl
  rw [e1]
  clear e1
  go_wp2_with fail
  go_region
  go_wp2_with fail
  refine ⟨rfl, _, rfl, .tuple #[], ?_, rfl, rfl, ?_, ?_⟩
  · simp [results, Try.results39]
  · exact (three_put ⟨h0, h1, h2⟩ 0 er).1.drew
  · exact (three_put ⟨h0, h1, h2⟩ 0 er).2.drew

set_option maxRecDepth 100000 in
theorem decode_idle (a b c : Value) (w : World) :
    CallsD Try.prog 39 #[a, b, c] .returning w fun e u' w' => e = .returned (.tuple #[]) ∧ u' = .returning ∧ w' = w := by
  refine callsD_of_wpS Try.func39 rfl fun c₀ cs hu => ?_
  apply wpS_seq
  apply wpS_region
  simp [wpOpsS, go_sem, recoverD, hu, Try.ntmps39, Exit.thenS]
  refine wpS_of_wp ?_
  have e1 : (#[a, b, c] ++ ((Array.replicate 7 undef).setIfInBounds 1 Value.nilIface).setIfInBounds 0 Value.nilIface : Array Value) = #[a, b, c, Value.nilIface, Value.nilIface, undef, undef, undef, undef, undef] := rfl
  rw [e1]
  clear e1
  go_wp2_with fail
  refine ⟨rfl, .returning, ?_, .tuple #[], ?_, rfl, rfl, rfl⟩
  · cases c₀; simp_all
  · simp [results, Try.results39]
end Go.Proofs.Ytipphdadibdifaa
