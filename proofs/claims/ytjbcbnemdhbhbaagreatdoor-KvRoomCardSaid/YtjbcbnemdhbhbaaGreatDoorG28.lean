import Derived.Test.YtjbcbnemdhbhbaaGreatDoorG1
import Derived.Test.YtjbcbnemdhbhbaaGreatDoorG18
import Derived.LoopN
import Derived.BigRegion
namespace Go.Proofs.YtjbcbnemdhbhbaaGreatDoor
namespace Fr
def lt (a b : Nat × Nat) : Bool := decide (a.1 < b.1) || (decide (a.1 = b.1) && decide (a.2 < b.2))
theorem lt_iff {a b : Nat × Nat} : lt a b = true ↔ a.1 < b.1 ∨ (a.1 = b.1 ∧ a.2 < b.2) := by simp [lt]
theorem lt_no {a b : Nat × Nat} : lt a b = false ↔ ¬ (a.1 < b.1 ∨ (a.1 = b.1 ∧ a.2 < b.2)) := by rw [← lt_iff]; simp
theorem lt_trans {a b c : Nat × Nat} (h : lt a b = true) (k : lt b c = true) : lt a c = true := by rw [lt_iff] at *; omega
theorem lt_le {a b c : Nat × Nat} (h : lt a b = true) (k : lt c b = false) : lt a c = true := by rw [lt_iff] at *; rw [lt_no] at k; omega
theorem le_lt {a b c : Nat × Nat} (h : lt b a = false) (k : lt b c = true) : lt a c = true := by rw [lt_iff] at *; rw [lt_no] at h; omega
def Sorted (l : List (Nat × Nat)) : Prop := l.Pairwise fun a b => lt a b = true
def spot (l : List (Nat × Nat)) (x : Nat × Nat) : Nat := l.findIdx fun y => !lt y x
def ins (l : List (Nat × Nat)) (x : Nat × Nat) : List (Nat × Nat) := l.take (spot l x) ++ ([x] ++ l.drop (spot l x))
def pg (l : List (Nat × Nat)) : List Nat := l.map (·.2)
theorem spot_le (l : List (Nat × Nat)) (x : Nat × Nat) : spot l x ≤ l.length := List.findIdx_le_length
theorem spot_below (l : List (Nat × Nat)) (x : Nat × Nat) (i : Nat) (h : i < spot l x) (hl : i < l.length) : lt l[i] x = true := by
 have := List.not_of_lt_findIdx (xs := l) (p := fun y => !lt y x) h
 cases hh : lt l[i] x with
 | true => rfl
 | false => simp [hh] at this
theorem spot_at (l : List (Nat × Nat)) (x : Nat × Nat) (hl : spot l x < l.length) : lt l[spot l x] x = false := by
 have := List.findIdx_getElem (w := hl) (p := fun y => !lt y x) (xs := l)
 cases hh : lt l[spot l x] x with
 | false => rfl
 | true =>
   have h2 : lt (l[List.findIdx (fun y => !lt y x) l]'hl) x = true := hh
   simp [h2] at this
theorem sorted_at {l : List (Nat × Nat)} (h : Sorted l) (i j : Nat) (hij : i < j) (hj : j < l.length) : lt (l[i]'(by omega)) l[j] = true := List.pairwise_iff_getElem.1 h i j (by omega) hj hij
theorem spot_above {l : List (Nat × Nat)} (h : Sorted l) (x : Nat × Nat) (i : Nat) (hi : spot l x ≤ i) (hl : i < l.length) : lt l[i] x = false := by
 have h0 := spot_at l x (by omega)
 by_cases e : i = spot l x
 · subst e; exact h0
 · have h1 := sorted_at h (spot l x) i (by omega) hl
   rw [lt_iff] at h1
   rw [lt_no] at h0 ⊢
   omega
theorem ins_len (l : List (Nat × Nat)) (x : Nat × Nat) : (ins l x).length = l.length + 1 := by
 have := spot_le l x
 unfold ins
 simp
 omega
theorem ins_perm (l : List (Nat × Nat)) (x : Nat × Nat) : (ins l x).Perm (x :: l) := by
 have h : (l.take (spot l x) ++ x :: l.drop (spot l x)).Perm (x :: (l.take (spot l x) ++ l.drop (spot l x))) := List.perm_middle
 rw [List.take_append_drop] at h
 exact h
theorem ins_sorted {l : List (Nat × Nat)} (h : Sorted l) (x : Nat × Nat) (hx : x ∉ l) : Sorted (ins l x) := by
 have hap : Sorted (l.take (spot l x) ++ l.drop (spot l x)) := by rw [List.take_append_drop]; exact h
 obtain ⟨h1, h2, h3⟩ := List.pairwise_append.1 hap
 have hb : ∀ y ∈ l.take (spot l x), lt y x = true := fun y hy => by
   obtain ⟨i, hi, rfl⟩ := List.mem_iff_getElem.1 hy
   rw [List.length_take] at hi
   rw [List.getElem_take]
   exact spot_below l x i (by omega) (by omega)
 have ha : ∀ y ∈ l.drop (spot l x), lt x y = true := fun y hy => by
   obtain ⟨i, hi, rfl⟩ := List.mem_iff_getElem.1 hy
   rw [List.length_drop] at hi
   rw [List.getElem_drop]
   have h0 := spot_above h x (spot l x + i) (by omega) (by omega)
   have hm : l[spot l x + i]'(by omega) ∈ l := List.getElem_mem _
   have hne : x ≠ l[spot l x + i]'(by omega) := fun e => hx (by rw [e]; exact hm)
   rw [lt_no] at h0
   rw [lt_iff]
   rcases Nat.lt_trichotomy x.1 (l[spot l x + i]'(by omega)).1 with q | q | q
   · exact .inl q
   · refine .inr ⟨q, ?_⟩
     rcases Nat.lt_trichotomy x.2 (l[spot l x + i]'(by omega)).2 with r | r | r
     · exact r
     · exact absurd (Prod.ext q r) hne
     · omega
   · omega
 refine List.pairwise_append.2 ⟨h1, List.pairwise_cons.2 ⟨ha, h2⟩, fun a hA b hB => ?_⟩
 rcases List.mem_cons.1 hB with rfl | hB
 · exact hb a hA
 · exact h3 a hA b hB
def here (l : List (Nat × Nat)) : List Bool := (List.range 512).map fun i => decide (i ∈ pg l)
theorem here_len (l : List (Nat × Nat)) : (here l).length = 512 := by simp [here]
theorem here_at (l : List (Nat × Nat)) {i : Nat} (h : i < 512) : (here l)[i]? = some (decide (i ∈ pg l)) := by simp [here, h]
theorem here_nil : here [] = List.replicate 512 false := by
 unfold here
 apply List.ext_getElem
 · rw [List.length_map, List.length_range, List.length_replicate]
 · intro i h1 h2
   rw [List.getElem_map, List.getElem_replicate]
   rfl
theorem here_add (l l' : List (Nat × Nat)) {p : Nat} (h : ∀ i, i ∈ pg l' ↔ i ∈ pg l ∨ i = p) : here l' = (here l).set p true := by
 apply List.ext_getElem
 · simp [here]
 · intro i h1 h2
   rw [List.getElem_set]
   simp only [here, List.getElem_map, List.getElem_range]
   by_cases e : p = i
   · subst e; rw [if_pos rfl]; exact decide_eq_true ((h p).2 (.inr rfl))
   · rw [if_neg e]
     have : (i ∈ pg l') ↔ i ∈ pg l := by rw [h i]; constructor; rintro (h | h); exact h; exact absurd h.symm e; exact .inl
     simp only [this]
theorem here_sub (l l' : List (Nat × Nat)) {p : Nat} (h : ∀ i, i ∈ pg l' ↔ i ∈ pg l ∧ i ≠ p) : here l' = (here l).set p false := by
 apply List.ext_getElem
 · simp [here]
 · intro i h1 h2
   rw [List.getElem_set]
   simp only [here, List.getElem_map, List.getElem_range]
   by_cases e : p = i
   · subst e; rw [if_pos rfl]; exact decide_eq_false (fun hh => ((h p).1 hh).2 rfl)
   · rw [if_neg e]
     have : (i ∈ pg l') ↔ i ∈ pg l := by rw [h i]; exact ⟨fun x => x.1, fun x => ⟨x, fun y => e y.symm⟩⟩
     simp only [this]
theorem pg_ins (l : List (Nat × Nat)) (x : Nat × Nat) : ∀ i, i ∈ pg (ins l x) ↔ i ∈ pg l ∨ i = x.2 := fun i => by
 unfold pg
 rw [((ins_perm l x).map _).mem_iff, List.map_cons, List.mem_cons]
 exact Or.comm
theorem here_ins (l : List (Nat × Nat)) (x : Nat × Nat) : here (ins l x) = (here l).set x.2 true := here_add _ _ (pg_ins l x)
theorem here_tail {x : Nat × Nat} {l : List (Nat × Nat)} (h : (pg (x :: l)).Nodup) : here l = (here (x :: l)).set x.2 false := by
 have hn := List.nodup_cons.1 h
 refine here_sub _ _ fun i => ⟨fun hi => ⟨List.mem_cons_of_mem _ hi, fun e => hn.1 (by subst e; exact hi)⟩, fun ⟨hi, hne⟩ => ?_⟩
 rcases List.mem_cons.1 hi with e | hi
 · exact absurd e hne
 · exact hi
def pieces (n : Nat) : Nat := if n < 1 then 0 else (n - 1) / 40 + 1
def ok (x : Nat × Nat) : Bool := decide (x.1 ≤ 1099511627776) && decide (1 ≤ x.2) && decide (x.2 < 512)
end Fr
end Go.Proofs.YtjbcbnemdhbhbaaGreatDoor
namespace Go.Proofs.YtjbcbnemdhbhbaaGreatDoor
open Go.RowKit
set_option maxRecDepth 100000
set_option linter.unusedVariables false
set_option linter.unusedSimpArgs false
def frV (x : Nat × Nat) : List Value := [.int .i64 x.1, .int .i64 x.2]
def flatF (l : List (Nat × Nat)) : List Value := (l.map frV).flatten
theorem flatF_app (a b : List (Nat × Nat)) : flatF (a ++ b) = flatF a ++ flatF b := by simp [flatF]
theorem flatF_cons (x : Nat × Nat) (l : List (Nat × Nat)) : flatF (x :: l) = frV x ++ flatF l := by simp [flatF]
theorem flatF_len : ∀ l : List (Nat × Nat), (flatF l).length = l.length * 2
 | [] => rfl
 | x :: l => by rw [flatF_cons, List.length_append, flatF_len l, List.length_cons]; show 2 + _ = _; omega
theorem flatF_get : ∀ (l : List (Nat × Nat)) (i : Nat) (h : i < l.length) (j : Nat), j < 2 → (flatF l)[i * 2 + j]? = (frV l[i])[j]?
 | x :: l, 0, h, j, hj => by
   rw [flatF_cons, Nat.zero_mul, Nat.zero_add, List.getElem?_append_left (by show j < 2; exact hj)]
   rfl
 | x :: l, i + 1, h, j, hj => by
   rw [flatF_cons, List.getElem?_append_right (by show 2 ≤ _; omega), show (i + 1) * 2 + j - (frV x).length = i * 2 + j by show (i + 1) * 2 + j - 2 = _; omega]
   exact flatF_get l i (by simpa using h) j hj
theorem flatF_one (l : List (Nat × Nat)) : ∀ u ∈ flatF l, u.oneCell' = true := by
 intro u hu
 obtain ⟨x, hx, hu⟩ := List.mem_flatten.1 hu
 obtain ⟨e, _, rfl⟩ := List.mem_map.1 hx
 simp only [frV, List.mem_cons, List.not_mem_nil, or_false] at hu
 rcases hu with rfl | rfl <;> rfl
theorem info_free : (Tryz.prog.info? 62).map (fun i => (i.zero, i.size, i.bytes)) = some (some (.agg #[.int .i64 0, .int .i64 0]), 2, 16) := by kernel_rfl
def FRow (w : World) (A : Option Addr) (l : List (Nat × Nat)) : Prop := ∀ (j : Nat) (u : Value), (flatF l)[j]? = some u → ∃ b o, A = some ⟨b, o, none⟩ ∧ b < w.heap.size ∧ w.cell? ⟨b, o + j, none⟩ = some u
theorem FRow.at {w : World} {A : Option Addr} {l : List (Nat × Nat)} (h : FRow w A l) (i : Nat) (hi : i < l.length) : ∃ b o, A = some ⟨b, o, none⟩ ∧ b < w.heap.size ∧ w.cell? ⟨b, o + i * 2, none⟩ = some (.int .i64 l[i].1) ∧ w.cell? ⟨b, o + i * 2 + 1, none⟩ = some (.int .i64 l[i].2) := by
 obtain ⟨b, o, hA, hb, h0⟩ := h (i * 2) (.int .i64 l[i].1) (by have := flatF_get l i hi 0 (by omega); rw [Nat.add_zero] at this; rw [this]; rfl)
 obtain ⟨b', o', hA', hb', h1⟩ := h (i * 2 + 1) (.int .i64 l[i].2) (by rw [flatF_get l i hi 1 (by omega)]; rfl)
 rw [hA] at hA'
 injection hA' with hA'
 injection hA' with e1 e2
 subst e1 e2
 exact ⟨b, o, hA, hb, h0, h1⟩
theorem FRow.off {U : List Nat} {w w' : World} {A : Option Addr} {l : List (Nat × Nat)} (h : FRow w A l) (ho : Off U w w') (hn : ∀ a, A = some a → a.block ∉ U) : FRow w' A l := by
 intro j u hu
 obtain ⟨b, o, rfl, hb, hc⟩ := h j u hu
 exact ⟨b, o, rfl, Nat.lt_of_lt_of_le hb ho.size, (ho.cell (p := ⟨b, o + j, none⟩) hb (hn ⟨b, o, none⟩ rfl)).trans hc⟩
theorem FRow.below {w w' : World} {A : Option Addr} {l : List (Nat × Nat)} (h : FRow w A l) (hb : Below w.heap.size w w') : FRow w' A l := by
 intro j u hu
 obtain ⟨b, o, rfl, hl, hc⟩ := h j u hu
 exact ⟨b, o, rfl, Nat.lt_of_lt_of_le hl hb.size, (hb.cell (p := ⟨b, o + j, none⟩) hl).trans hc⟩
def FOwn (w : World) (B : Nat) (v : Value) (l : List (Nat × Nat)) : Prop := w.ownsRow B 62 2 v l.length (flatF l)
theorem FOwn.row {w : World} {B : Nat} {A : Option Addr} {n c : Nat} {l : List (Nat × Nat)} (h : FOwn w B (.slice A n c) l) : FRow w A l ∧ n = l.length ∧ n ≤ c ∧ c ≤ maxLen ∧ (∀ a, A = some a → a = ⟨a.block, 0, none⟩ ∧ B ≤ a.block ∧ a.block < w.heap.size) ∧ (A = none → c = 0) := by
 rcases h.2 with ⟨h1, h2⟩ | ⟨g, cap, cur, h1, hb, hh, hc, hm, r⟩
 · injection h1 with e1 e2 e3
   subst e1 e2 e3
   exact ⟨fun j u hu => by rw [List.eq_nil_of_length_eq_zero h2] at hu; simp [flatF] at hu, h2.symm, Nat.le_refl _, Nat.zero_le _, (fun a ha => by cases ha), fun _ => rfl⟩
 · injection h1 with e1 e2 e3
   subst e1 e2 e3
   refine ⟨fun j u hu => ⟨g, 0, rfl, lt_of_block hh, ?_⟩, rfl, hc, hm, (fun a ha => by cases ha; exact ⟨rfl, hb, lt_of_block hh⟩), fun hh => by cases hh⟩
   have := World.ownsRow.cells h (g := g) rfl j u hu
   rw [addr_add] at this
   exact this
def hereV (l : List (Nat × Nat)) : List Value := (Fr.here l).map Value.bool
def flCells (A : Option Addr) (c : Nat) (l : List (Nat × Nat)) : Array Value := (Value.slice A l.length c :: hereV l).toArray
theorem flCells_zero (A : Option Addr) (c : Nat) (l : List (Nat × Nat)) : (flCells A c l)[0]? = some (.slice A l.length c) := by simp [flCells]
theorem flCells_at (A : Option Addr) (c : Nat) (l : List (Nat × Nat)) (i : Nat) (h : i < 512) : (flCells A c l)[1 + i]? = some (.bool (decide (i ∈ Fr.pg l))) := by
 rw [Nat.add_comm]
 simp [flCells, hereV, Fr.here_at l h]
structure FL (w : World) (f : Nat) (S : List Nat) (l : List (Nat × Nat)) : Prop where
 ex : ∃ A c, Bk w f 165 (flCells A c l) ∧ FRow w A l ∧ l.length ≤ c ∧ c ≤ maxLen ∧ (∀ a, A = some a → a.block ∈ S ∧ a.block ≠ f) ∧ (A = none → c = 0)
 inS : f ∈ S
 old : ∀ b ∈ S, b < w.heap.size
structure FLO (w : World) (f : Nat) (S : List Nat) (l : List (Nat × Nat)) : Prop where
 ex : ∃ A c, Bk w f 165 (flCells A c l) ∧ FOwn w 0 (.slice A l.length c) l ∧ ∀ a, A = some a → a.block ∈ S
 inS : f ∈ S
 old : ∀ b ∈ S, b < w.heap.size
theorem FLO.fl {w : World} {f : Nat} {S : List Nat} {l : List (Nat × Nat)} (h : FLO w f S l) : FL w f S l := by
 obtain ⟨⟨A, c, h1, h2, h3⟩, h4, h5⟩ := h
 obtain ⟨r1, r2, r3, r4, r5, r6⟩ := h2.row
 refine ⟨⟨A, c, h1, r1, r3, r4, fun a ha => ⟨h3 a ha, fun e => ?_⟩, r6⟩, h4, h5⟩
 have hne := own_ne h2 h1 (by decide)
 rw [ha, (r5 a ha).1, e] at hne
 exact hne rfl
theorem FL.off {w w' : World} {f : Nat} {S U : List Nat} {l : List (Nat × Nat)} (h : FL w f S l) (ho : Off U w w') (hU : ∀ b ∈ S, b ∉ U) : FL w' f S l := by
 obtain ⟨⟨A, c, h1, h2, h3, h4, h5, h8⟩, h6, h7⟩ := h
 exact ⟨⟨A, c, ho.bk h1 (hU f h6), h2.off ho (fun a ha => hU _ (h5 a ha).1), h3, h4, h5, h8⟩, h6, fun b hb => Nat.lt_of_lt_of_le (h7 b hb) ho.size⟩
theorem FLO.off {w w' : World} {f : Nat} {S U : List Nat} {l : List (Nat × Nat)} (h : FLO w f S l) (ho : Off U w w') (hU : ∀ b ∈ S, b ∉ U) : FLO w' f S l := by
 obtain ⟨⟨A, c, h1, h2, h3⟩, h6, h7⟩ := h
 refine ⟨⟨A, c, ho.bk h1 (hU f h6), ho.own h2 (fun g hg => ?_), h3⟩, h6, fun b hb => Nat.lt_of_lt_of_le (h7 b hb) ho.size⟩
 obtain ⟨a, rfl⟩ : ∃ a, A = some a := by
   cases A with
   | none => simp [Value.ownBlock] at hg
   | some a => exact ⟨a, rfl⟩
 have h9 := (h2.row).2.2.2.2.1 a rfl
 have h8 := h3 a rfl
 rw [h9.1] at hg h8
 have e : a.block = g := by simpa [Value.ownBlock] using hg
 rw [← e]
 exact hU _ h8
theorem FL.below {w w' : World} {f : Nat} {S : List Nat} {l : List (Nat × Nat)} (h : FL w f S l) (hb : Below w.heap.size w w') : FL w' f S l := h.off (Off.of_below hb []) (fun _ _ => List.not_mem_nil)
theorem FLO.below {w w' : World} {f : Nat} {S : List Nat} {l : List (Nat × Nat)} (h : FLO w f S l) (hb : Below w.heap.size w w') : FLO w' f S l := h.off (Off.of_below hb []) (fun _ _ => List.not_mem_nil)
set_option maxHeartbeats 16000000 in
theorem fnew_any (w : World) : Calls Tryz.prog 155 #[] w (fun e w' => e = .returned (.pointer (some ⟨w.heap.size, 0, none⟩)) ∧ FLO w' w.heap.size [w.heap.size] [] ∧ Below w.heap.size w w') := by
 go_enter Tryz.func155, Tryz.ntmps155
 go_wp2_with fail
 go_ret
 refine ⟨rfl, ⟨⟨none, 0, ?_, World.ownsRow_nil _ _ _ _, fun a ha => by cases ha⟩, by simp, fun b hb => by rw [List.mem_singleton] at hb; subst hb; simp⟩, (Below.refl _ _).alloc (Nat.le_refl _) _⟩
 have e : flCells none 0 [] = (Value.slice none 0 0 :: List.replicate 512 (Value.bool false)).toArray := by unfold flCells hereV; rw [Fr.here_nil, List.map_replicate]; rfl
 rw [e]
 exact Bk.new w _ _
set_option maxHeartbeats 4000000 in
theorem fcount_any {w : World} {f : Nat} {S : List Nat} {l : List (Nat × Nat)} (h : FL w f S l) : Calls Tryz.prog 112 #[.pointer (some ⟨f, 0, none⟩)] w (fun e w' => e = .returned (.int .i64 l.length) ∧ w = w') := by
 obtain ⟨⟨A, c, h1, h2, h3, h4, h5, -⟩, h6, h7⟩ := h
 have c0 := (h1.cell 0).trans (flCells_zero A c l)
 have lf := h1.lt
 clear h1 h2 h5 h6 h7
 go_enter Tryz.func112, Tryz.ntmps112
 go_wp2_with fail
 go_ret
 exact ⟨rfl, rfl⟩
set_option maxHeartbeats 4000000 in
theorem fpieces_any (n : Nat) (w : World) (h : n ≤ 1000000) : Calls Tryz.prog 111 #[.int .i64 n] w (fun e w' => e = .returned (.int .i64 (Fr.pieces n : Nat)) ∧ w = w') := by
 by_cases h0 : n < 1
 · obtain rfl : n = 0 := by omega
   go_enter Tryz.func111, Tryz.ntmps111
   go_wp2_with fail
   go_ret
   exact ⟨rfl, rfl⟩
 · have z1 : decide ((n : Int) < 1) = false := decide_eq_false (by omega)
   have HP := Lib.hid (show Fr.pieces n = (n - 1) / 40 + 1 by unfold Fr.pieces; rw [if_neg h0])
   have hn : 1 ≤ (n : Int) := by omega
   have hn2 : (n : Int) ≤ 1000000 := by omega
   go_enter Tryz.func111, Tryz.ntmps111
   go_wp2_with fail
   go_ret
   refine ⟨congrArg (fun z : Int => Ending.returned (.int .i64 z)) ?_, rfl⟩
   rw [HP.out]
   omega
set_option maxHeartbeats 4000000 in
theorem ftake_no {w : World} {f : Nat} {S : List Nat} {l : List (Nat × Nat)} (h : FL w f S l) (upto : Int) (hu : ∀ x t, l = x :: t → upto < x.1) : Calls Tryz.prog 169 #[.pointer (some ⟨f, 0, none⟩), .int .i64 upto] w (fun e w' => e = .returned (.tuple #[.int .i64 0, .bool false]) ∧ w = w') := by
 obtain ⟨⟨A, c, h1, h2, h3, h4, h5, -⟩, h6, h7⟩ := h
 have c0 := (h1.cell 0).trans (flCells_zero A c l)
 have lf := h1.lt
 cases l with
 | nil =>
   simp only [List.length_nil] at c0
   clear h1 h2 h5 h6 h7 hu
   go_enter Tryz.func169, Tryz.ntmps169
   go_wp2_with fail
   go_ret2
   exact ⟨rfl, rfl⟩
 | cons x t =>
   have z1 : decide (upto < (x.1 : Int)) = true := decide_eq_true (hu x t rfl)
   obtain ⟨b, o, rfl, lb, q0, q1⟩ := h2.at 0 (by simp)
   simp only [List.getElem_cons_zero, Nat.zero_mul, Nat.add_zero] at q0 q1
   obtain ⟨n, hn⟩ : ∃ n, n = t.length := ⟨_, rfl⟩
   simp only [List.length_cons] at c0 h3
   rw [← hn] at c0 h3
   have z2 : ((n : Int) + 1 == 0) = false := by rw [beq_eq_false_iff_ne]; omega
   have z3 : (n + 1 == 0) = false := by rw [beq_eq_false_iff_ne]; omega
   have z4 : 0 < n + 1 := by omega
   clear h1 h2 h5 h6 h7 hu hn
   go_enter Tryz.func169, Tryz.ntmps169
   go_wp2_with fail
   go_ret2
   exact ⟨rfl, rfl⟩
theorem fset_here (A A' : Option Addr) (c c' : Nat) (l l' : List (Nat × Nat)) (p : Nat) (b : Bool) (hp : p < 512) (hh : Fr.here l' = (Fr.here l).set p b) : ((flCells A c l).setIfInBounds 0 (.slice A' l'.length c')).setIfInBounds (1 + p) (.bool b) = flCells A' c' l' := by
 apply Array.ext'
 rw [Array.toList_setIfInBounds, Array.toList_setIfInBounds]
 unfold flCells hereV
 rw [hh, List.map_set]
 simp [Nat.add_comm]
theorem FRow.tail {w : World} {b o : Nat} {x : Nat × Nat} {t : List (Nat × Nat)} (h : FRow w (some ⟨b, o, none⟩) (x :: t)) : FRow w (some ⟨b, o + 2, none⟩) t := by
 intro j u hu
 obtain ⟨b', o', hA, hb, hc⟩ := h (j + 2) u (by rw [flatF_cons, List.getElem?_append_right (by show 2 ≤ _; omega)]; exact hu)
 injection hA with hA
 injection hA with e1 e2
 subst e1 e2
 exact ⟨b, o + 2, rfl, hb, by rw [show o + 2 + j = o + (j + 2) by omega]; exact hc⟩
def TakePost (f : Nat) (S : List Nat) (p : Nat) (t : List (Nat × Nat)) (w : World) (e : Ending) (w' : World) : Prop := e = .returned (.tuple #[.int .i64 p, .bool true]) ∧ FL w' f S t ∧ Off [f] w w'
set_option maxHeartbeats 8000000 in
theorem ftake_yes {w : World} {f : Nat} {S : List Nat} {x : Nat × Nat} {t : List (Nat × Nat)} (h : FL w f S (x :: t)) (upto : Int) (hu : (x.1 : Int) ≤ upto) (hp : x.2 < 512) (hnd : (Fr.pg (x :: t)).Nodup) :
   Calls Tryz.prog 169 #[.pointer (some ⟨f, 0, none⟩), .int .i64 upto] w (TakePost f S x.2 t w) := by
 obtain ⟨⟨A, c, h1, h2, h3, h4, h5, -⟩, h6, h7⟩ := h
 have H1 := Lib.hid h1
 have H2 := Lib.hid h2
 have H5 := Lib.hid h5
 have H6 := Lib.hid h6
 have H7 := Lib.hid h7
 have HND := Lib.hid (Fr.here_tail hnd)
 have c0 := (h1.cell 0).trans (flCells_zero A c (x :: t))
 have cp := (h1.cell (1 + x.2)).trans (flCells_at A c (x :: t) x.2 hp)
 have f0 := h1.frozen 0
 have fp := h1.frozen (1 + x.2)
 have lf := h1.lt
 have z1 : decide (upto < (x.1 : Int)) = false := decide_eq_false (by omega)
 obtain ⟨b, o, rfl, lb, q0, q1⟩ := h2.at 0 (by simp)
 simp only [List.getElem_cons_zero, Nat.zero_mul, Nat.add_zero] at q0 q1
 have HBF := Lib.hid (h5 _ rfl)
 obtain ⟨n, hn⟩ : ∃ n, n = t.length := ⟨_, rfl⟩
 have HN := Lib.hid hn
 simp only [List.length_cons] at c0 h3
 rw [← hn] at c0 h3
 have z2 : ((n : Int) + 1 == 0) = false := by rw [beq_eq_false_iff_ne]; omega
 have z3 : (n + 1 == 0) = false := by rw [beq_eq_false_iff_ne]; omega
 have z4 : 0 < n + 1 := by omega
 have z5 : 1 ≤ n + 1 := by omega
 obtain ⟨p, hp9⟩ : ∃ p, p = x.2 := ⟨_, rfl⟩
 have HP := Lib.hid hp9
 rw [← hp9] at q1 cp fp hp
 have z6 : decide ((p : Int) < 512) = true := decide_eq_true (by omega)
 unfold maxLen at h4
 clear h1 h2 h5 h6 h7 hu hn hnd hp9
 have hoff : ∀ (u v : Value), Off [f] w ((w.setCell ⟨f, 0, none⟩ u).setCell ⟨f, 1 + p, none⟩ v) := fun u v => ((Off.refl [f] w).setCell (.inl (by simp)) _).setCell (.inl (by simp)) _
 have HOFF := Lib.hid hoff
 have HSET := Lib.hid fun (A' : Option Addr) (c' : Nat) => fset_here (some ⟨b, o, none⟩) A' c c' (x :: t) t p false hp (by rw [HP.out]; exact HND.out)
 clear hoff
 by_cases hc : c = 1
 · have hn0 : n = 0 := by omega
   have ht : t = [] := List.eq_nil_of_length_eq_zero (by rw [← HN.out]; exact hn0)
   have HT := Lib.hid ht
   clear ht
   subst hc hn0
   go_enter Tryz.func169, Tryz.ntmps169
   go_wp2_with fail
   go_ret2
   have h9 := HSET.out (some ⟨b, o, none⟩) 0
   rw [← HN.out] at h9
   refine ⟨congrArg (fun z : Nat => Ending.returned (.tuple #[.int .i64 (z : Int), .bool true])) HP.out, ⟨⟨some ⟨b, o, none⟩, 0, ?_, ?_, by rw [HT.out]; exact Nat.le_refl _, Nat.zero_le _, fun a ha => ?_, fun hh => by cases hh⟩, H6.out, fun y hy => ?_⟩, HOFF.out _ _⟩
   · rw [← h9]
     exact (H1.out.put 0 _).put (1 + p) _
   · rw [HT.out]
     intro j u hu
     simp [flatF] at hu
   · cases ha; exact HBF.out
   · have := H7.out y hy
     simpa [World.setCell] using this
 · have hc2 : (1 = c) = False := by rw [eq_iff_iff]; exact ⟨fun h => hc h.symm, False.elim⟩
   go_enter Tryz.func169, Tryz.ntmps169
   go_wp2_with fail
   go_ret2
   have h9 := HSET.out (some ⟨b, o + 2, none⟩) (c - 1)
   rw [← HN.out] at h9
   refine ⟨congrArg (fun z : Nat => Ending.returned (.tuple #[.int .i64 (z : Int), .bool true])) HP.out, ⟨⟨some ⟨b, o + 2, none⟩, c - 1, ?_, (FRow.tail H2.out).off (HOFF.out _ _) (fun a ha => ?_), by rw [← HN.out]; omega, by unfold maxLen; omega, fun a ha => ?_, fun hh => by cases hh⟩, H6.out, fun y hy => ?_⟩, HOFF.out _ _⟩
   · rw [← h9]
     exact (H1.out.put 0 _).put (1 + p) _
   · cases ha; simpa using HBF.out.2
   · cases ha; exact HBF.out
   · have := H7.out y hy
     simpa [World.setCell] using this
theorem retI {a b : Int} (h : a = b) : Ending.returned (.int .i64 a) = Ending.returned (.int .i64 b) := by rw [h]
theorem bk_atN (w : World) (t : TypeId) (cs : Array Value) (k : Nat) (h : w.heap.size = k) : Bk (w.alloc (.cells cs t)) k t cs := by subst h; exact Bk.new w t cs
def cmpI (a b : Int) : Int := if a < b then -1 else if b < a then 1 else 0
theorem nanI (x : Int) (w : World) : Calls Tryz.prog 243 #[.int .i64 x] w (fun e w' => e = .returned (.bool false) ∧ w = w') := by
 go_enter Tryz.func243, Tryz.ntmps243
 go_wp2_with fail
 go_ret
 exact ⟨rfl, rfl⟩
set_option maxHeartbeats 4000000 in
theorem compareI (a b : Int) (w : World) : Calls Tryz.prog 248 #[.int .i64 a, .int .i64 b] w (fun e w' => e = .returned (.int .i64 (cmpI a b)) ∧ w = w') := by
 have HN := Lib.hid fun (x : Int) (W : World) => nanI x W
 by_cases h1 : a < b
 · have HC := Lib.hid (show cmpI a b = -1 by unfold cmpI; rw [if_pos h1])
   have z1 : decide (a < b) = true := decide_eq_true h1
   clear h1
   go_enter Tryz.func248, Tryz.ntmps248
   go_wp2_with (go_at_call 243; refine (HN.out _ _).mono ?_; rintro e w' ⟨rfl, rfl⟩)
   go_ret
   exact ⟨retI HC.out.symm, rfl⟩
 · by_cases h2 : b < a
   · have HC := Lib.hid (show cmpI a b = 1 by unfold cmpI; rw [if_neg h1, if_pos h2])
     have z1 : decide (a < b) = false := decide_eq_false h1
     have z2 : decide (b < a) = true := decide_eq_true h2
     clear h1 h2
     go_enter Tryz.func248, Tryz.ntmps248
     go_wp2_with (go_at_call 243; refine (HN.out _ _).mono ?_; rintro e w' ⟨rfl, rfl⟩)
     go_ret
     exact ⟨retI HC.out.symm, rfl⟩
   · have HC := Lib.hid (show cmpI a b = 0 by unfold cmpI; rw [if_neg h1, if_neg h2])
     have z1 : decide (a < b) = false := decide_eq_false h1
     have z2 : decide (b < a) = false := decide_eq_false h2
     clear h1 h2
     go_enter Tryz.func248, Tryz.ntmps248
     go_wp2_with (go_at_call 243; refine (HN.out _ _).mono ?_; rintro e w' ⟨rfl, rfl⟩)
     go_ret
     exact ⟨retI HC.out.symm, rfl⟩
def orZ (x y : Int) : Int := if x = 0 then y else x
set_option maxHeartbeats 4000000 in
theorem orI (b : Nat) (x y : Int) (w : World) (h : Bk w b 3 #[.int .i64 x, .int .i64 y]) : Calls Tryz.prog 247 #[.slice (some ⟨b, 0, none⟩) 2 2] w (fun e w' => e = .returned (.int .i64 (orZ x y)) ∧ w = w') := by
 have c0 := h.cell 0
 have c1 := h.cell 1
 have lb := h.lt
 clear h
 by_cases hx : x = 0
 · subst hx
   by_cases hy : y = 0
   · subst hy
     have HX := Lib.hid (show orZ 0 0 = 0 from rfl)
     go_enter Tryz.func247, Tryz.ntmps247
     go_wp2_with fail
     refine wp_loop_rounds 3 ?_
     rw [rounds_succ]
     go_wp2_with fail
     rw [rounds_succ]
     go_wp2_with fail
     rw [rounds_succ]
     go_wp2_with fail
     go_ret
     exact ⟨retI HX.out.symm, rfl⟩
   · have z1 : (y != 0) = true := by rw [bne_iff_ne]; exact hy
     have HX := Lib.hid (show orZ 0 y = y from rfl)
     clear hy
     go_enter Tryz.func247, Tryz.ntmps247
     go_wp2_with fail
     refine wp_loop_rounds 3 ?_
     rw [rounds_succ]
     go_wp2_with fail
     rw [rounds_succ]
     go_wp2_with fail
     go_ret
     exact ⟨retI HX.out.symm, rfl⟩
 · have z1 : (x != 0) = true := by rw [bne_iff_ne]; exact hx
   have HX := Lib.hid (show orZ x y = x by unfold orZ; rw [if_neg hx])
   clear hx
   go_enter Tryz.func247, Tryz.ntmps247
   go_wp2_with fail
   refine wp_loop_rounds 3 ?_
   rw [rounds_succ]
   go_wp2_with fail
   go_ret
   exact ⟨retI HX.out.symm, rfl⟩
def Fr.cmp (x y : Nat × Nat) : Int := orZ (cmpI x.1 y.1) (cmpI x.2 y.2)
theorem Fr.cmp_lt (x y : Nat × Nat) : Fr.lt x y = decide (Fr.cmp x y < 0) := by
 rw [Bool.eq_iff_iff, decide_eq_true_eq, Fr.lt_iff]
 unfold Fr.cmp orZ cmpI
 repeat split
 all_goals omega
set_option maxHeartbeats 8000000 in
theorem forder_any (x y : Nat × Nat) (w : World) : Calls Tryz.prog 216 #[.agg #[.int .i64 x.1, .int .i64 x.2], .agg #[.int .i64 y.1, .int .i64 y.2]] w (fun e w' => e = .returned (.int .i64 (Fr.cmp x y)) ∧ Below w.heap.size w w') := by
 have HC := Lib.hid fun (a b : Int) (W : World) => compareI a b W
 have HO := Lib.hid fun (b : Nat) (x y : Int) (W : World) (h : Bk W b 3 #[.int .i64 x, .int .i64 y]) => orI b x y W h
 have HF := Lib.hid (show Fr.cmp x y = orZ (cmpI x.1 y.1) (cmpI x.2 y.2) from rfl)
 go_enter Tryz.func216, Tryz.ntmps216
 go_wp2_with fail
 have HKS := Lib.hid (show ∀ W, Below (w.heap.size + 2) ((w.alloc (.cells #[.int .i64 x.1, .int .i64 x.2] 62)).alloc (.cells #[.int .i64 y.1, .int .i64 y.2] 62)) W → W.cell? ⟨w.heap.size, 0, none⟩ = some (.int .i64 x.1) ∧ W.cell? ⟨w.heap.size, 1, none⟩ = some (.int .i64 x.2) ∧ W.cell? ⟨w.heap.size + 1, 0, none⟩ = some (.int .i64 y.1) ∧ W.cell? ⟨w.heap.size + 1, 1, none⟩ = some (.int .i64 y.2) from fun W hW => by
   have h1 := bk_below ((Bk.new w 62 #[.int .i64 x.1, .int .i64 x.2]).alloc (.cells #[.int .i64 y.1, .int .i64 y.2] 62)) (w' := W) (by simpa using hW)
   have h2 := bk_below (Bk.new (w.alloc (.cells #[.int .i64 x.1, .int .i64 x.2] 62)) 62 #[.int .i64 y.1, .int .i64 y.2]) (w' := W) (by simpa using hW)
   have h3 := h2.cell 0
   have h4 := h2.cell 1
   rw [show (w.alloc (.cells #[.int .i64 x.1, .int .i64 x.2] 62)).heap.size = w.heap.size + 1 by simp] at h3 h4
   exact ⟨h1.cell 0, h1.cell 1, h3, h4⟩)
 go_region_held3 (fun W => W.cell? ⟨w.heap.size, 0, none⟩ = some (.int .i64 x.1) ∧ W.cell? ⟨w.heap.size, 1, none⟩ = some (.int .i64 x.2) ∧ W.cell? ⟨w.heap.size + 1, 0, none⟩ = some (.int .i64 y.1) ∧ W.cell? ⟨w.heap.size + 1, 1, none⟩ = some (.int .i64 y.2)) (first | (refine HKS.out _ ?_; with_reducible (first | exact (Below.refl _ _).drew | exact ((Below.refl _ _).alloc (by simp) _).drew)) | fail) (first
   | (go_at_call 248; (with_reducible refine (HC.out _ _ _).mono ?_); rintro e w' ⟨rfl, rfl⟩)
   | (go_at_call 247; (refine (HO.out (w.heap.size + 1 + 1) (cmpI x.1 y.1) (cmpI x.2 y.2) _ (bk_atN _ _ _ _ (by simp)).drew).mono ?_; rintro e w' ⟨rfl, rfl⟩)))
 all_goals
   go_wp2_with fail
   go_ret
   exact ⟨retI HF.out.symm, ((((Below.refl _ w).alloc (Nat.le_refl _) _).alloc (by simp) _).alloc (by simp; omega) _).drew⟩
set_option maxHeartbeats 4000000 in
theorem fright_ok (x : Nat × Nat) (w : World) (h : Fr.ok x = true) : Calls Tryz.prog 214 #[.agg #[.int .i64 x.1, .int .i64 x.2]] w (fun e w' => e = .returned (.bool true) ∧ Below w.heap.size w w') := by
 unfold Fr.ok at h
 simp only [Bool.and_eq_true, decide_eq_true_eq] at h
 obtain ⟨⟨h1, h2⟩, h3⟩ := h
 obtain ⟨a, b⟩ := x
 simp only at h1 h2 h3 ⊢
 have z0 : decide ((0 : Int) ≤ (a : Int)) = true := decide_eq_true (by omega)
 have z1 : decide ((a : Int) ≤ 1099511627776) = true := decide_eq_true (by omega)
 have z2 : decide ((1 : Int) ≤ (b : Int)) = true := decide_eq_true (by omega)
 have z3 : decide ((b : Int) < 512) = true := decide_eq_true (by omega)
 have z4 : decide (1 ≤ b) = true := decide_eq_true h2
 have z5 : decide (b < 512) = true := decide_eq_true h3
 clear h1 h2 h3
 go_enter Tryz.func214, Tryz.ntmps214
 go_wp2_with fail
 go_ret
 exact ⟨rfl, (Below.refl _ w).alloc (Nat.le_refl _) _⟩
end Go.Proofs.YtjbcbnemdhbhbaaGreatDoor
