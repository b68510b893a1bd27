/- Where the play of DevPlays stands: the device and the reference's, apart. -/
import Derived.Test.YtchldjjfaiikbaaRDevActs
import Derived.Test.YtchldjjfaiikbaaRDevNew
import Derived.Test.YtchldjjfaiikbaaLastsState
namespace Go.Proofs.Ytchldjjfaiikbaa
open Go.RowKit
open Go.PlainAid
set_option maxRecDepth 100000
set_option linter.unusedVariables false

/-- The device at g is D, the reference's at h is E; nothing of the two was there at w. -/
structure PSt (w wr : World) (g : Nat) (S : List Nat) (D : DevS) (h : Nat) (R : List Nat) (E : DevS) : Prop where
  dev : Dev wr g S D
  ref : RDev wr h R E
  ap : ∀ b ∈ S, b ∉ R
  bel : Below w.heap.size w wr
  newS : ∀ b ∈ S, w.heap.size ≤ b
  newR : ∀ b ∈ R, w.heap.size ≤ b
theorem PSt.drewN {w wr : World} {g h : Nat} {S R : List Nat} {D E : DevS} (p : PSt w wr g S D h R E) (n : Nat) : PSt w (wr.drewN n) g S D h R E :=
  ⟨p.dev.drewN n, p.ref.off ((Off.refl [] wr).drewN n) (fun _ _ => List.not_mem_nil), p.ap, p.bel.trans (((Off.refl [] wr).drewN n).below p.bel.size (by simp)), p.newS, p.newR⟩
theorem PSt.drew {w wr : World} {g h : Nat} {S R : List Nat} {D E : DevS} (p : PSt w wr g S D h R E) : PSt w wr.drew g S D h R E := p.drewN 1
theorem PSt.did {w wr w' : World} {g h : Nat} {S R : List Nat} {D E D' : DevS} (p : PSt w wr g S D h R E) (k : ∃ S', Dev w' g S' D' ∧ Off S wr w' ∧ Fresh wr S S') : ∃ S', PSt w w' g S' D' h R E := by
  obtain ⟨S', h1, h2, h3⟩ := k
  refine ⟨S', h1, p.ref.off h2 (fun b hb hs => p.ap b hs hb), fun b hb hr => ?_, p.bel.trans (h2.below p.bel.size p.newS), fun b hb => (h3 b hb).elim (p.newS b) (Nat.le_trans p.bel.size), p.newR⟩
  rcases h3 b hb with h4 | h4
  · exact p.ap b h4 hr
  · have := p.ref.old b hr; omega
theorem PSt.meant {w wr w' : World} {g h : Nat} {S R : List Nat} {D E E' : DevS} (p : PSt w wr g S D h R E) (k : ∃ R', RDev w' h R' E' ∧ Off R wr w' ∧ Fresh wr R R') : ∃ R', PSt w w' g S D h R' E' := by
  obtain ⟨R', h1, h2, h3⟩ := k
  refine ⟨R', p.dev.off h2 (fun b hb hs => p.ap b hb hs), h1, fun b hb hr => ?_, p.bel.trans (h2.below p.bel.size p.newR), p.newS, fun b hb => (h3 b hb).elim (p.newR b) (Nat.le_trans p.bel.size)⟩
  rcases h3 b hr with h4 | h4
  · exact p.ap b hb h4
  · have := p.dev.old b hb; omega
theorem plays_start {w w1 w2 w3 : World} {g h : Nat} {S R : List Nat} {n : Nat} (b1 : Below w.heap.size w w1) (hd : Dev w2 g S (DevS.new n)) (b2 : Below w1.heap.size w1 w2) (hS : ∀ b ∈ S, w1.heap.size ≤ b)
    (hr : RDev w3 h R (DevS.new n)) (b3 : Below w2.heap.size w2 w3) (hR : ∀ b ∈ R, w2.heap.size ≤ b) : PSt w w3 g S (DevS.new n) h R (DevS.new n) := by
  have s1 := b1.size
  have s2 := b2.size
  refine ⟨hd.below b3, hr, fun b hb hb2 => ?_, (b1.trans (b2.mono s1)).trans (b3.mono (by omega)), fun b hb => by have := hS b hb; omega, fun b hb => by have := hR b hb; omega⟩
  have h1 := hd.old b hb
  have h2 := hR b hb2
  omega
/-- A sector of the reference's device. -/
theorem PSt.sector {w wr : World} {g h : Nat} {S R : List Nat} {D E : DevS} (p : PSt w wr g S D h R E) :
    ∃ (l cl : Nat) (v1 : Value), wr.cell? ⟨h, 0, none⟩ = some (.slice (some ⟨l, 0, none⟩) E.sec.length cl) ∧ wr.cell? ⟨h, 2, none⟩ = some (.bool E.off) ∧ wr.cell? ⟨h, 4, none⟩ = some (.int .i64 E.steps) ∧ wr.cell? ⟨h, 5, none⟩ = some (.int .i64 E.writes) ∧
      ∀ k, k < E.sec.length → wr.cell? ⟨l, k, none⟩ = some (.string (E.lasts (k : Int))) := by
  obtain ⟨l, cl, A, cr, hd⟩ := p.ref
  obtain ⟨c0, c1, c2, c3, c4, c5⟩ := hd.cells.six
  refine ⟨l, cl, .slice A E.row.length cr, c0, c2, c4, c5, fun k hk => ?_⟩
  rw [hd.sector hk]
  unfold DevS.lasts
  rw [DevS.isIn_iff.2 ⟨by omega, by omega⟩, if_pos rfl, Int.toNat_natCast]
end Go.Proofs.Ytchldjjfaiikbaa
