/- Where the play of DevLasts stands: the device, and the row of what may last. -/
import Derived.Test.YtchldjjfaiikbaaLastsActs
import Derived.Test.YtchldjjfaiikbaaOffRow
import Derived.Test.YtchldjjfaiikbaaDActsRow
import Derived.Test.YtchldjjfaiikbaaDevAwake
namespace Go.Proofs.Ytchldjjfaiikbaa
open Go.RowKit
open Go.PlainAid
set_option maxRecDepth 100000
set_option linter.unusedVariables false

theorem ActV.Ok.below {w w' : World} {x : ActV} (h : x.Ok w) (hb : Below w.heap.size w w') : x.Ok w' := ⟨h.n1, h.text, h.len, h.most, h.sl.below hb⟩
theorem DActsAt.below {w w' : World} {A : Option Addr} {xs : List ActV} (h : DActsAt w A xs) (hb : Below w.heap.size w w') : DActsAt w' A xs := by
  intro i x hx
  obtain ⟨b, o, hA, hlt, hc, hok⟩ := h i x hx
  exact ⟨b, o, hA, Nat.lt_of_lt_of_le hlt hb.size, fun j hj => (hb.cell (p := ⟨b, o + i * 6 + j, none⟩) hlt).trans (hc j hj), hok.below hb⟩
/-- The six cells of one act. -/
theorem DActsAt.six {w : World} {A : Option Addr} {xs : List ActV} (h : DActsAt w A xs) {i : Nat} {x : ActV} (hx : xs[i]? = some x) :
    ∃ b o, A = some ⟨b, o, none⟩ ∧ b < w.heap.size ∧ x.Ok w ∧ w.cell? ⟨b, o + i * 6, none⟩ = some (.int .i64 x.kind) ∧ w.cell? ⟨b, o + i * 6 + 1, none⟩ = some (.int .i64 x.i) ∧ w.cell? ⟨b, o + i * 6 + 2, none⟩ = some (.int .i64 x.n) ∧
      w.cell? ⟨b, o + i * 6 + 3, none⟩ = some (.int .u8 (x.c.toNat : Int)) ∧ w.cell? ⟨b, o + i * 6 + 4, none⟩ = some (.string x.text) ∧ w.cell? ⟨b, o + i * 6 + 5, none⟩ = some (.slice x.A x.picks.length x.cap) := by
  obtain ⟨b, o, hA, hlt, hc, hok⟩ := h i x hx
  exact ⟨b, o, hA, hlt, hok, hc 0 (by decide), hc 1 (by decide), hc 2 (by decide), hc 3 (by decide), hc 4 (by decide), hc 5 (by decide)⟩

structure LSt (w wr : World) (g : Nat) (D : DevS) (S : List Nat) (may : List ByteArray) (b o cap : Nat) : Prop where
  dev : Dev wr g S D
  row : OffRow wr 9 b o cap (may.map Value.string)
  ap : b ∉ S
  newb : w.heap.size ≤ b
  bel : Below w.heap.size w wr
  newS : ∀ x ∈ S, w.heap.size ≤ x
theorem LSt.post {w wr w' : World} {g : Nat} {D D' : DevS} {S : List Nat} {may : List ByteArray} {b o cap : Nat} (h : LSt w wr g D S may b o cap) (k : ∃ S', Dev w' g S' D' ∧ Off S wr w' ∧ Fresh wr S S') : ∃ S', LSt w w' g D' S' may b o cap := by
  obtain ⟨S', h1, h2, h3⟩ := k
  refine ⟨S', h1, h.row.off h2 h.ap, fun hx => ?_, h.newb, h.bel.trans (h2.below h.bel.size h.newS), fun x hx => (h3 x hx).elim (h.newS x) (Nat.le_trans h.bel.size)⟩
  rcases h3 b hx with h4 | h4
  · exact h.ap h4
  · have := h.row.lt; omega
theorem LSt.below {w wr w' : World} {g : Nat} {D : DevS} {S : List Nat} {may : List ByteArray} {b o cap : Nat} (h : LSt w wr g D S may b o cap) (hb : Below wr.heap.size wr w') : LSt w w' g D S may b o cap :=
  ⟨h.dev.below hb, h.row.below hb, h.ap, h.newb, h.bel.trans (hb.mono h.bel.size), h.newS⟩
theorem LSt.appended {w wr w' : World} {g : Nat} {D : DevS} {S : List Nat} {may may' : List ByteArray} {b o cap b' o' cap' : Nat} (h : LSt w wr g D S may b o cap) (hr : OffRow w' 9 b' o' cap' (may'.map Value.string)) (ho : Off [b] wr w') (hb : b' = b ∨ wr.heap.size ≤ b') : LSt w w' g D S may' b' o' cap' := by
  refine ⟨h.dev.off ho (fun x hx hm => h.ap ((List.mem_singleton.1 hm) ▸ hx)), hr, fun hx => ?_, ?_, h.bel.trans (ho.below h.bel.size (fun x hx => (List.mem_singleton.1 hx) ▸ h.newb)), h.newS⟩
  · rcases hb with rfl | hb
    · exact h.ap hx
    · have := h.dev.old _ hx; omega
  · rcases hb with rfl | hb
    · exact h.newb
    · exact Nat.le_trans h.bel.size hb
theorem LSt.dropped {w wr : World} {g : Nat} {D : DevS} {S : List Nat} {may : List ByteArray} {b o cap : Nat} (h : LSt w wr g D S may b o cap) (k : Nat) (hk : k ≤ may.length) : LSt w wr g D S (may.drop k) b (o + k) (cap - k) := by
  refine ⟨h.dev, ?_, h.ap, h.newb, h.bel, h.newS⟩
  have := h.row.drop k (by simpa using hk)
  rwa [← List.map_drop] at this
/-- A row of one text of its own. -/
theorem LSt.one {w wr : World} {g : Nat} {D : DevS} {S : List Nat} {may : List ByteArray} {b o cap : Nat} (h : LSt w wr g D S may b o cap) (s : ByteArray) :
    LSt w (wr.alloc (.cells #[.string s] 9)) g D S [s] wr.heap.size 0 1 :=
  ⟨(h.below ((Below.refl _ wr).alloc (Nat.le_refl _) _)).dev, offRow_one (Bk.new wr _ _), fun hx => by have := h.dev.old _ hx; omega, h.bel.size, h.bel.trans ((Below.mono ((Below.refl _ wr).alloc (Nat.le_refl _) _)) h.bel.size), h.newS⟩
end Go.Proofs.Ytchldjjfaiikbaa
