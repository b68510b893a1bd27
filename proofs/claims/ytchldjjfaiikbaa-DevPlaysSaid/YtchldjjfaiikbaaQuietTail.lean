/- The tail of a region that draws: behind the operations that write, all that is left only reads and calls quietly: one walk in the text's order serves every order. Over any program. -/
import Derived.Test.YtchldjjfaiikbaaKit
import Derived.OrdersHeld
namespace Go.Proofs.Ytchldjjfaiikbaa
open Go.RowKit
section
variable {P : Program} {ops : Array Oper} {md : Region.Mode} {S : World → Prop}

theorem wpAnyH_of_quiet {C : World → Prop} {Q : Act → Prop} {Q' : Exit → Act → World → Prop} (hCS : ∀ w, C w → S w) (hQ : ∀ a w, C w → Q a → Q' .normal a w) : ∀ (fuel : Nat) (listed : Array Bool) (a : Act) (w : World), C w →
    wpAnyQ P md ops C Q fuel listed a → wpAnyH P md ops Q' S fuel listed a w
  | 0, _, _, _, hw, h => ⟨h.1, hQ _ _ hw h.2⟩
  | fuel + 1, _, _, _, hw, h => ⟨fun h0 => hQ _ _ hw (h.1 h0), fun i hi => wpOp_of_qOp hw (fun a' w' hw' hk => ⟨hCS _ hw', wpAnyH_of_quiet hCS hQ fuel _ a' w' hw' hk⟩) (h.2 i hi)⟩

theorem wpAnyH_tail {Q : Exit → Act → World → Prop} {a : Act} {w : World} {listed : Array Bool} {fuel : Nat} (k : Nat) (hs : Region.noSelect ops = true) (hf : (ops.toList.drop k).length = fuel) (hB : Region.lexFrom md ops (ops.toList.drop k).length k listed = true) (hS : ∀ n, S (w.drewN n))
    (h : wpQuiet P ops (fun w' => ∃ n, w' = w.drewN n) (fun a' => ∀ w', (∃ n, w' = w.drewN n) → Q .normal a' w') (ops.toList.drop k) a) : wpAnyH P md ops Q S fuel listed a w := by
  subst hf
  refine wpAnyH_of_quiet (C := fun w' => ∃ n, w' = w.drewN n) (Q := fun a' => ∀ w', (∃ n, w' = w.drewN n) → Q .normal a' w') (fun w' ⟨n, hn⟩ => by rw [hn]; exact hS n) (fun _ w' hw' h => h w' hw') _ _ _ _ ⟨0, rfl⟩ ?_
  exact wpAnyQ_lex hs _ k _ _ (fun j => by rw [List.getElem?_drop, Array.getElem?_toList]) hB h
end
end Go.Proofs.Ytchldjjfaiikbaa
