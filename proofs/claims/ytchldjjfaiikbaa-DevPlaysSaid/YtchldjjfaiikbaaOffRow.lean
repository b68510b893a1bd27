/- A row that begins at an offset of its block: one element appended. Over any program. -/
import Derived.Test.YtchldjjfaiikbaaWords
import Derived.ArgAppend
namespace Go.Proofs.Ytchldjjfaiikbaa
open Go.RowKit
set_option linter.unusedVariables false

/-- The slice at offset o of block b holds these cells, and has room up to cap. -/
def OffRow (w : World) (t : TypeId) (b o cap : Nat) (xs : List Value) : Prop :=
  ∃ cs, Bk w b t cs ∧ xs.length ≤ cap ∧ cap ≤ maxLen ∧ o + cap ≤ cs.size ∧ ∀ j u, xs[j]? = some u → cs[o + j]? = some u
theorem OffRow.lt {w : World} {t : TypeId} {b o cap : Nat} {xs : List Value} (h : OffRow w t b o cap xs) : b < w.heap.size := by
  obtain ⟨cs, h1, _⟩ := h
  exact h1.lt
theorem OffRow.len {w : World} {t : TypeId} {b o cap : Nat} {xs : List Value} (h : OffRow w t b o cap xs) : xs.length ≤ cap ∧ cap ≤ maxLen := by
  obtain ⟨cs, _, h1, h2, _⟩ := h
  exact ⟨h1, h2⟩
theorem OffRow.cell {w : World} {t : TypeId} {b o cap : Nat} {xs : List Value} (h : OffRow w t b o cap xs) (j : Nat) (u : Value) (hu : xs[j]? = some u) : w.cell? ⟨b, o + j, none⟩ = some u := by
  obtain ⟨cs, h1, _, _, _, h2⟩ := h
  rw [h1.cell]
  exact h2 j u hu
theorem OffRow.off {S : List Nat} {w w' : World} {t : TypeId} {b o cap : Nat} {xs : List Value} (h : OffRow w t b o cap xs) (ho : Off S w w') (hb : b ∉ S) : OffRow w' t b o cap xs := by
  obtain ⟨cs, h1, h2⟩ := h
  exact ⟨cs, ho.bk h1 hb, h2⟩
theorem OffRow.below {w w' : World} {t : TypeId} {b o cap : Nat} {xs : List Value} (h : OffRow w t b o cap xs) (ho : Below w.heap.size w w') : OffRow w' t b o cap xs := h.off (Off.of_below ho []) (by simp)
/-- The row from its k-th element on. -/
theorem OffRow.drop {w : World} {t : TypeId} {b o cap : Nat} {xs : List Value} (h : OffRow w t b o cap xs) (k : Nat) (hk : k ≤ xs.length) : OffRow w t b (o + k) (cap - k) (xs.drop k) := by
  obtain ⟨cs, h1, h2, h3, h4, h5⟩ := h
  refine ⟨cs, h1, by rw [List.length_drop]; omega, by omega, by omega, fun j u hu => ?_⟩
  rw [List.getElem?_drop] at hu
  have := h5 (k + j) u hu
  rwa [← Nat.add_assoc] at this
/-- A new block of one cell. -/
theorem offRow_one {w : World} {t : TypeId} {b : Nat} {u : Value} (h : Bk w b t #[u]) : OffRow w t b 0 1 [u] := by
  refine ⟨#[u], h, by simp, by decide, by simp, fun j v hv => ?_⟩
  rw [Nat.zero_add]
  cases j with
  | zero => simpa using hv
  | succ j => simp at hv

theorem wpList_append_one {P : Program} (w : World) {ops : Array Oper} {rest : List Oper} {o : Oper} {a : Act} {Q : Exit → Act → World → Prop}
    (hg : o.guard = none) (s x : Operand) (t : TypeId) (hop : o.op = Op.call { callee := Callee.builtin Builtin.append, args := #[s, x], argTypes := #[t, t] })
    (e : TypeId) (i : TypeInfo) (z : Value) (bytes : Nat) (h1 : P.underlying t = some (.slice e)) (h2 : P.info? e = some i) (h3 : i.zero = some z) (h4 : i.size = 1) (h5 : i.bytes = bytes) (h6 : z.cells.size = 1)
    (b off n cap : Nat) (xs : List Value) (hs : a.eval s = .slice (some ⟨b, off, none⟩) n cap) (hn : xs.length = n) (hown : OffRow w e b off cap xs)
    (g c : Nat) (u : Value) (hx : a.eval x = .slice (some ⟨g, 0, none⟩) 1 c) (hc : w.cell? ⟨g, 0, none⟩ = some u) (h1c : u.oneCell' = true)
    (b1 : n + 1 ≤ maxLen) (b2 : (n + 1) * bytes ≤ 140737488355328)
    (h : ∀ b' o' cap' w', OffRow w' e b' o' cap' (xs ++ [u]) → Off [b] w w' → (b' = b ∨ w.heap.size ≤ b') → wpList P ops Q rest (a.put o.dst (.slice (some ⟨b', o', none⟩) (n + 1) cap')) w') :
    wpList P ops Q (o :: rest) a w := by
  have hown0 := hown
  obtain ⟨cs, k1, k2, k3, k4, k5⟩ := hown
  have hsp : n + 1 ≤ cap → off + n < cs.size := fun hr => by omega
  refine wpList_append_arg w hg s x t hop e i z 1 bytes h1 h2 h3 h4 h5 h6 (by decide) b off n cap xs hs (by omega) (fun j v hv => hown0.cell j v hv) ⟨g, 0, none⟩ 1 c [u] hx rfl ?_ (by simpa using h1c) ?_ b1 b2 ?_ ?_
  · intro j v hv
    cases j with
    | zero => simp at hv; subst hv; simpa [Addr.add] using hc
    | succ j => simp at hv
  · intro hr j hj
    obtain rfl : j = 0 := by simpa using hj
    refine ⟨?_, k1.frozen _⟩
    rw [k1.cell]
    have := hsp hr
    simp
    omega
  · intro hr
    have e1 : w.setCells b (off + n * 1) [u] = w.setCell ⟨b, off + n, none⟩ u := by rw [Nat.mul_one]; rfl
    rw [e1]
    have hb : n < cap := by omega
    refine h b off cap _ ⟨_, k1.put (off + n) u, by simp; omega, k3, by simpa using k4, ?_⟩ ((Off.refl [b] w).setCell (.inl (by simp)) u) (.inl rfl)
    intro j v hv
    rw [Array.getElem?_setIfInBounds]
    have hsz := hsp hr
    by_cases hj : off + n = off + j
    · have hjn : j = n := by omega
      rw [if_pos hj, if_pos (by omega)]
      subst hjn
      rw [List.getElem?_append_right (by omega), show j - xs.length = 0 by omega] at hv
      exact hv
    · rw [if_neg hj]
      have hlt : j < xs.length := by
        have := (List.getElem?_eq_some_iff.1 hv).1
        simp at this
        omega
      rw [List.getElem?_append_left hlt] at hv
      exact k5 j v hv
  · intro hr v' w' ho hgr
    obtain ⟨r1, r2⟩ := ho
    rcases r2 with ⟨rfl, r3⟩ | ⟨g', cap', cur, rfl, r3, r4, r5, r6, r7, r8⟩
    · omega
    · refine h g' 0 cap' w' ⟨cur, r4, ?_, r6, by omega, ?_⟩ ((Off.refl [b] w).grown hgr (fun _ hh => by cases hh)) (.inr r3)
      · simp; omega
      · intro j v hv
        rw [Nat.zero_add, ← r8, List.getElem?_take] at *
        split at hv
        · simpa using hv
        · cases hv
end Go.Proofs.Ytchldjjfaiikbaa
