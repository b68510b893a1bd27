/- slices.Sorted(maps.Keys(m)) at the map of what waits: the keys, rising. -/
import Derived.Test.YtchldjjfaiikbaaDevSync
import Derived.Test.YtchldjjfaiikbaaShelf
import Derived.Shelf.SlIterI.Nil
import Derived.Shelf.SortM.Plain
import Derived.Shelf.SortM.SortNone
namespace Go.Proofs.Ytchldjjfaiikbaa
open Go.RowKit Go.Maps Go.Sort Go.Shelf
set_option maxRecDepth 100000
set_option linter.unusedVariables false
set_option linter.unusedSimpArgs false

theorem sortsA (m : Nat) : AnyZI.SortsIn Try.prog Try.sortedA_ren Fence.wide m :=
  ⟨fun blk off cap ss W hH hblk hsz => callsIn_wide.2 (AnyM.slices_Sort_int Try.sortA blk off cap ss W hH hblk hsz),
   fun p cap W => callsIn_wide.2 (AnyM.slices_Sort_int_none Try.sortA p cap W)⟩

theorem dkeys (m : Nat) (W : World) : Calls Try.prog 31 #[.map (some m)] W fun e w' => e = .returned (.func (.func 41) #[] #[.pointer (some ⟨W.heap.size, 0, none⟩)]) ∧ w' = W.alloc (.cells #[.map (some m)] 57) :=
  (callsIn_wide (n := 6)).1 (AnyZI.keys_in Try.keysA Fence.wide 6 trivial rfl (some m) W)

theorem leI_eq {l l' : List Int} (h : l.Perm l') (hs : l'.Pairwise (· < ·)) : l.mergeSort (fun x y => decide (x ≤ y)) = l' := by
  have h1 : (l.mergeSort (fun x y => decide (x ≤ y))).Perm l' := (List.mergeSort_perm _ _).trans h
  have h2 : (l.mergeSort (fun x y => decide (x ≤ y))).Pairwise (fun x y => x ≤ y) := by
    have := List.pairwise_mergeSort (le := fun (x y : Int) => decide (x ≤ y)) (by intro a b c; simp; omega) (by intro a b; simp; omega) l
    exact this.imp (by intro a b; simp)
  exact h1.eq_of_pairwise (by intro a b _ _ h3 h4; omega) h2 (hs.imp (by intro a b h; omega))

def SortedPost (keys : List Int) (B : Nat) (w : World) (e : Ending) (w' : World) : Prop :=
  ∃ v, e = .returned v ∧ w'.ownsRow B 3 1 v keys.length (keys.map (Value.int .i64)) ∧ Below B w w'

set_option maxHeartbeats 1000000 in
theorem dsorted {w : World} {m nn : Nat} {V : Int → Option Value} (h : IMap Try.prog 3 w m nn V) (hn : nn ≤ 1000000000) (keys : List Int) (hk : keys.Pairwise (· < ·)) (hm : ∀ x, x ∈ keys ↔ (V x).isSome = true) :
    Calls Try.prog 30 #[.func (.func 41) #[] #[.pointer (some ⟨w.heap.size, 0, none⟩)]] (w.alloc (.cells #[.map (some m)] 57))
      (SortedPost keys (w.heap.size + 1) (w.alloc (.cells #[.map (some m)] 57))) := by
  obtain ⟨D, hown, ha⟩ := h
  have hbl := hown.lt
  have hsz := hown.size_le
  have hseq : SeqGives Fence.wide 2 Try.prog 41 #[.pointer (some ⟨w.heap.size, 0, none⟩)] encZ (fun ss => ss.Perm (intKeys D)) (Maps.size D) (w.alloc (.cells #[.map (some m)] 57)) :=
    AnyZI.keys_gives (ρ := Try.keysA_ren) { Try.keysA with } Fence.wide _ trivial rfl (by omega) w.heap.size m nn D _ (by simp) (by simp) (by
      obtain ⟨es, clock, hb, Ft, hs, hD⟩ := hown
      exact ⟨es, clock, (Below.heap_alloc _ _ m hbl).trans hb, Ft, hs, hD⟩)
  have cS := AnyZI.sorted_in Try.sortedA Fence.wide 5 trivial trivial trivial trivial rfl (by omega) (sortsA _) (enters_of Try.func40 (by kernel_rfl) rfl) 41 #[.pointer (some ⟨w.heap.size, 0, none⟩)] trivial (enters_of Try.func41 (by kernel_rfl) rfl) _ _ (by unfold maxLen; omega) (by omega) _ hseq
  change CallsIn _ _ Try.prog 30 _ _ _ at cS
  have c2 := callsIn_wide.1 cS
  refine c2.mono ?_
  rintro e w' ⟨v, ss, rfl, hS, hrow, hnil, hb⟩
  have e1 : (w.alloc (.cells #[.map (some m)] 57)).heap.size = w.heap.size + 1 := by simp
  rw [e1] at hrow hb
  obtain ⟨es, rfl, hp, hkl⟩ := hown.entries (int_keyed Try.underlying3)
  have hperm : keys.Perm (intKeys (.map es)) := by
    refine perm_intKeys hp ?_ (hk.imp (by intro a b h; omega)) (fun x => ?_)
    · intro p hp'
      have h1 : Maps.has (.map es) p.1 = true := List.any_eq_true.2 ⟨p, hp', WideAt.sameKey_self (hkl p hp')⟩
      obtain ⟨i, v, _, he⟩ := ha.2 _ h1
      exact ⟨i, he⟩
    · rw [hm x, has_of_agrees ha]
  have hs : ss.mergeSort (fun x y => decide (x ≤ y)) = keys := leI_eq (hS.trans hperm.symm) hk
  rw [hs] at hrow
  have hlen : ss.length = keys.length := by rw [(hS.trans hperm.symm).length_eq]
  rw [hlen] at hrow
  exact ⟨v, rfl, hrow, hb⟩
end Go.Proofs.Ytchldjjfaiikbaa
