import Derived.Test.YtjbcbnemdhbhbaaGreatDoorG12
namespace Go.Proofs.YtjbcbnemdhbhbaaGreatDoor
open Go.RowKit
set_option linter.unusedVariables false
set_option linter.unusedSimpArgs false
structure Pgg where
 kind : Nat
 body : ByteArray
abbrev Book := Nat → Option Pgg
structure En where
 cell : Ce
 pages : List Nat
 val : List UInt8
structure Kd where
 key : ByteArray
 no : Nat
 P : List Nat
 L : List En
def Kd.cell (k : Kd) : Ce := ⟨k.key, ⟨#[]⟩, 0, 0, k.no⟩
def Kd.rg (k : Kd) : ByteArray × List En := (k.key, k.L)
namespace Tr
def Chain (σ : Book) : Nat → List Nat → List UInt8 → Prop
 | no, [], v => no = 0 ∧ v = []
 | no, n :: ns, v => no = n ∧ 1 ≤ n ∧ n < 512 ∧ ∃ (next : Nat) (piece rest : List UInt8), σ n = some ⟨3, ⟨(Be.low next 4 ++ piece).toArray⟩⟩ ∧ next < 512 ∧ v = piece ++ rest ∧ 0 < piece.length ∧ piece.length ≤ 484 ∧ (next ≠ 0 → piece.length = 484) ∧ Chain σ next ns rest
def EnOk (σ : Book) (e : En) : Prop := Nd.rightLeaf e.cell = true ∧ ((e.cell.over = 0 ∧ e.pages = [] ∧ e.val = e.cell.val.data.toList) ∨ (e.cell.over ≠ 0 ∧ Chain σ e.cell.over e.pages e.val ∧ e.val.length = e.cell.size))
def Rising (L : List En) : Prop := L.Pairwise fun a b => Nd.lt a.cell.key b.cell.key = true
def Sep (l : List (ByteArray × List En)) : Prop := l.Pairwise (fun a b => ∀ e ∈ a.2, Nd.lt e.cell.key b.1 = true) ∧ ∀ a ∈ l, ∀ e ∈ a.2, Nd.lt e.cell.key a.1 = false
def StoredBy (Q : List Ce → List Nat → List En → Prop) (leaf : Bool) (σ : Book) (no : Nat) (P : List Nat) (L : List En) : Prop :=
 ∃ (cs : List Ce) (P' : List Nat), P = no :: P' ∧ 1 ≤ no ∧ no < 512 ∧ σ no = some ⟨if leaf then 1 else 2, Nd.str leaf cs⟩ ∧ Q cs P' L ∧ Nd.sum leaf cs ≤ 488 ∧ L ≠ [] ∧ (leaf = false → 2 ≤ cs.length)
def Fat (d : Nat) (L : List En) : Prop := d = 0 → 122 ≤ Nd.sum true (L.map (·.cell))
def KeyOk (d : Nat) (k : Kd) : Prop := k.key.size ≤ 120 ∧ Fat d k.L
def Part (σ : Book) : Nat → List Ce → List Nat → List En → Prop
 | 0, cs, P, L => cs = L.map (·.cell) ∧ P = L.flatMap (·.pages) ∧ Rising L ∧ ∀ e ∈ L, EnOk σ e
 | d + 1, cs, P, L => ∃ ks : List Kd, cs = ks.map Kd.cell ∧ P = ks.flatMap (·.P) ∧ L = ks.flatMap (·.L) ∧ (∃ k t, ks = k :: t ∧ k.key = ⟨#[]⟩) ∧ Sep (ks.map Kd.rg) ∧ ∀ k ∈ ks, KeyOk d k ∧ StoredBy (Part σ d) (d == 0) σ k.no k.P k.L
def Stored (σ : Book) (d : Nat) : Nat → List Nat → List En → Prop := StoredBy (Part σ d) (d == 0) σ
def Root (σ : Book) (root : Nat) (P : List Nat) (L : List En) : Prop := (root = 0 ∧ P = [] ∧ L = []) ∨ ∃ d, Stored σ d root P L
theorem lt_le {a b c : ByteArray} (h1 : Nd.lt a b = true) (h2 : Nd.lt c b = false) : Nd.lt a c = true := by
 rcases Nd.lt_total b c with h | h | h
 · exact Nd.lt_trans h1 h
 · subst h; exact h1
 · rw [h2] at h; cases h
theorem le_lt {a b c : ByteArray} (h1 : Nd.lt b a = false) (h2 : Nd.lt b c = true) : Nd.lt a c = true := by
 rcases Nd.lt_total a b with h | h | h
 · exact Nd.lt_trans h h2
 · subst h; exact h2
 · rw [h1] at h; cases h
theorem le_of_lt {a b : ByteArray} (h : Nd.lt a b = true) : Nd.lt b a = false := Nd.lt_asymm h
theorem le_nil (a : ByteArray) : Nd.lt a ⟨#[]⟩ = false := by
 unfold Nd.lt
 have e : (⟨#[]⟩ : ByteArray).toList = [] := by rw [ByteArray.toList_eq]
 rw [e]
 cases a.toList <;> rfl
theorem rise_pairwise : ∀ (l : List Ce), l.Pairwise (fun a b => Nd.lt a.key b.key = true) → Nd.rise l = true
 | [], _ => rfl
 | [_], _ => rfl
 | a :: b :: l, h => by
   rw [List.pairwise_cons] at h
   simp only [Nd.rise, Bool.and_eq_true]
   exact ⟨h.1 b (by simp), rise_pairwise (b :: l) h.2⟩
theorem Chain.congr {σ σ' : Book} : ∀ {ns : List Nat} {no : Nat} {v : List UInt8}, Chain σ no ns v → (∀ n ∈ ns, σ' n = σ n) → Chain σ' no ns v
 | [], _, _, h, _ => h
 | n :: ns, _, _, ⟨h1, h2, h3, next, piece, rest, h4, h5, h6, h7, h8, h9, h10⟩, hk =>
   ⟨h1, h2, h3, next, piece, rest, (hk n (by simp)).trans h4, h5, h6, h7, h8, h9, h10.congr fun m hm => hk m (by simp [hm])⟩
theorem Chain.mem {σ : Book} : ∀ {ns : List Nat} {no : Nat} {v : List UInt8}, Chain σ no ns v → ∀ n ∈ ns, 1 ≤ n ∧ n < 512 ∧ σ n ≠ none
 | n :: ns, _, _, ⟨h1, h2, h3, next, piece, rest, h4, h5, h6, h7, h8, h9, h10⟩, m, hm => by
   rcases List.mem_cons.1 hm with rfl | hm
   · exact ⟨h2, h3, by rw [h4]; simp⟩
   · exact h10.mem m hm
theorem EnOk.congr {σ σ' : Book} {e : En} (h : EnOk σ e) (hk : ∀ n ∈ e.pages, σ' n = σ n) : EnOk σ' e :=
 ⟨h.1, h.2.imp id fun ⟨a, b, c⟩ => ⟨a, b.congr hk, c⟩⟩
theorem EnOk.mem {σ : Book} {e : En} (h : EnOk σ e) : ∀ n ∈ e.pages, 1 ≤ n ∧ n < 512 ∧ σ n ≠ none := by
 rcases h.2 with ⟨-, h2, -⟩ | ⟨-, h2, -⟩
 · rw [h2]; simp
 · exact h2.mem
theorem storedBy_congr {Q Q' : List Ce → List Nat → List En → Prop} {leaf : Bool} {σ σ' : Book} {no : Nat} {P : List Nat} {L : List En} (h : StoredBy Q leaf σ no P L) (hk : ∀ n ∈ P, σ' n = σ n) (hQ : ∀ cs P', (∀ n ∈ P', n ∈ P) → Q cs P' L → Q' cs P' L) : StoredBy Q' leaf σ' no P L := by
 obtain ⟨cs, P', rfl, h1, h2, h3, h4, h5⟩ := h
 exact ⟨cs, P', rfl, h1, h2, (hk no (by simp)).trans h3, hQ cs P' (fun n hn => by simp [hn]) h4, h5⟩
theorem Part.congr {σ σ' : Book} : ∀ {d : Nat} {cs : List Ce} {P : List Nat} {L : List En}, Part σ d cs P L → (∀ n ∈ P, σ' n = σ n) → Part σ' d cs P L
 | 0, cs, P, L, ⟨h1, h2, h3, h4⟩, hk => ⟨h1, h2, h3, fun e he => (h4 e he).congr fun n hn => hk n (by rw [h2]; exact List.mem_flatMap.2 ⟨e, he, hn⟩)⟩
 | d + 1, cs, P, L, ⟨ks, h1, h2, h3, h4, h5, h6⟩, hk => ⟨ks, h1, h2, h3, h4, h5, fun k hkm => ⟨(h6 k hkm).1, storedBy_congr (h6 k hkm).2 (fun n hn => hk n (by rw [h2]; exact List.mem_flatMap.2 ⟨k, hkm, hn⟩)) (fun cs P' hP hq => Part.congr hq fun n hn => hk n (by rw [h2]; exact List.mem_flatMap.2 ⟨k, hkm, hP n hn⟩))⟩⟩
theorem Stored.congr {σ σ' : Book} {d no : Nat} {P : List Nat} {L : List En} (h : Stored σ d no P L) (hk : ∀ n ∈ P, σ' n = σ n) : Stored σ' d no P L :=
 storedBy_congr h hk fun cs P' hP hq => hq.congr fun n hn => hk n (hP n hn)
theorem Part.mem {σ : Book} : ∀ {d : Nat} {cs : List Ce} {P : List Nat} {L : List En}, Part σ d cs P L → ∀ n ∈ P, 1 ≤ n ∧ n < 512 ∧ σ n ≠ none
 | 0, cs, P, L, ⟨h1, h2, h3, h4⟩, n, hn => by
   rw [h2] at hn
   obtain ⟨e, he, hn⟩ := List.mem_flatMap.1 hn
   exact (h4 e he).mem n hn
 | d + 1, cs, P, L, ⟨ks, h1, h2, h3, h4, h5, h6⟩, n, hn => by
   rw [h2] at hn
   obtain ⟨k, hk, hn⟩ := List.mem_flatMap.1 hn
   obtain ⟨cs, P', hP, g1, g2, g3, g4, g5⟩ := (h6 k hk).2
   rw [hP] at hn
   rcases List.mem_cons.1 hn with rfl | hn
   · exact ⟨g1, g2, by rw [g3]; simp⟩
   · exact g4.mem n hn
theorem Stored.mem {σ : Book} {d no : Nat} {P : List Nat} {L : List En} (h : Stored σ d no P L) : ∀ n ∈ P, 1 ≤ n ∧ n < 512 ∧ σ n ≠ none := by
 obtain ⟨cs, P', rfl, g1, g2, g3, g4, g5⟩ := h
 intro n hn
 rcases List.mem_cons.1 hn with rfl | hn
 · exact ⟨g1, g2, by rw [g3]; simp⟩
 · exact g4.mem n hn
theorem sep_cons {a : ByteArray × List En} {l : List (ByteArray × List En)} : Sep (a :: l) ↔ ((∀ b ∈ l, ∀ e ∈ a.2, Nd.lt e.cell.key b.1 = true) ∧ ∀ e ∈ a.2, Nd.lt e.cell.key a.1 = false) ∧ Sep l := by
 unfold Sep
 rw [List.pairwise_cons]
 constructor
 · rintro ⟨⟨h1, h2⟩, h3⟩
   exact ⟨⟨h1, h3 a (by simp)⟩, h2, fun x hx => h3 x (by simp [hx])⟩
 · rintro ⟨⟨h1, h2⟩, h3, h4⟩
   exact ⟨⟨h1, h3⟩, fun x hx => by rcases List.mem_cons.1 hx with rfl | hx; exact h2; exact h4 x hx⟩
theorem sep_app {a b : List (ByteArray × List En)} : Sep (a ++ b) ↔ Sep a ∧ Sep b ∧ ∀ x ∈ a, ∀ y ∈ b, ∀ e ∈ x.2, Nd.lt e.cell.key y.1 = true := by
 unfold Sep
 rw [List.pairwise_append]
 constructor
 · rintro ⟨⟨h1, h2, h3⟩, h4⟩
   exact ⟨⟨h1, fun x hx => h4 x (by simp [hx])⟩, ⟨h2, fun x hx => h4 x (by simp [hx])⟩, h3⟩
 · rintro ⟨⟨h1, h2⟩, ⟨h3, h4⟩, h5⟩
   exact ⟨⟨h1, h3, h5⟩, fun x hx => by rcases List.mem_append.1 hx with hx | hx; exact h2 x hx; exact h4 x hx⟩
theorem rising_flat : ∀ (ks : List Kd), Sep (ks.map Kd.rg) → (∀ k ∈ ks, Rising k.L) → Rising (ks.flatMap (·.L))
 | [], _, _ => List.Pairwise.nil
 | k :: ks, h, hr => by
   rw [List.map_cons, sep_cons] at h
   rw [List.flatMap_cons]
   refine List.pairwise_append.2 ⟨hr k (by simp), rising_flat ks h.2 fun x hx => hr x (by simp [hx]), ?_⟩
   intro a ha b hb
   obtain ⟨x, hx, hb⟩ := List.mem_flatMap.1 hb
   have h1 := h.1.1 x.rg (List.mem_map_of_mem hx) a ha
   have h2 := h.2.2 x.rg (List.mem_map_of_mem hx) b hb
   exact lt_le h1 h2
theorem Part.rising {σ : Book} : ∀ {d : Nat} {cs : List Ce} {P : List Nat} {L : List En}, Part σ d cs P L → Rising L
 | 0, cs, P, L, ⟨h1, h2, h3, h4⟩ => h3
 | d + 1, cs, P, L, ⟨ks, h1, h2, h3, h4, h5, h6⟩ => by
   rw [h3]
   refine rising_flat ks h5 fun k hk => ?_
   obtain ⟨cs, P', hP, g1, g2, g3, g4, g5⟩ := (h6 k hk).2
   exact g4.rising
theorem kids_rise : ∀ (ks : List Kd), Sep (ks.map Kd.rg) → (∀ k ∈ ks, k.L ≠ []) → (ks.map Kd.cell).Pairwise (fun a b => Nd.lt a.key b.key = true)
 | [], _, _ => List.Pairwise.nil
 | k :: ks, h, hn => by
   rw [List.map_cons, sep_cons] at h
   rw [List.map_cons, List.pairwise_cons]
   refine ⟨fun c hc => ?_, kids_rise ks h.2 fun x hx => hn x (by simp [hx])⟩
   obtain ⟨x, hx, rfl⟩ := List.mem_map.1 hc
   obtain ⟨e, t, he⟩ := List.exists_cons_of_ne_nil (hn k (by simp))
   have he : e ∈ k.L := by rw [he]; simp
   exact le_lt (h.1.2 e he) (h.1.1 x.rg (List.mem_map_of_mem hx) e he)
theorem Part.right {σ : Book} {d : Nat} {cs : List Ce} {P : List Nat} {L : List En} (h : Part σ d cs P L) : Nd.right (d == 0) cs = true ∧ ∀ c ∈ cs, Nd.rightOne (d == 0) c = true := by
 cases d with
 | zero =>
   obtain ⟨h1, h2, h3, h4⟩ := h
   have h5 : ∀ c ∈ cs, Nd.rightOne true c = true := fun c hc => by
     rw [h1] at hc
     obtain ⟨e, he, rfl⟩ := List.mem_map.1 hc
     exact (h4 e he).1
   refine ⟨?_, h5⟩
   unfold Nd.right
   have h6 : Nd.rise cs = true := rise_pairwise _ (by rw [h1]; exact List.pairwise_map.2 h3)
   simp only [beq_self_eq_true, Bool.true_or, Bool.true_and, h6, Bool.and_true]
   exact List.all_eq_true.2 h5
 | succ d =>
   obtain ⟨ks, h1, h2, h3, ⟨k, t, h4, h4'⟩, h5, h6⟩ := h
   have h7 : ∀ c ∈ cs, Nd.rightOne false c = true := fun c hc => by
     rw [h1] at hc
     obtain ⟨x, hx, rfl⟩ := List.mem_map.1 hc
     obtain ⟨⟨g0, -⟩, _, _, _, g1, g2, -⟩ := h6 x hx
     simp [Nd.rightOne, Nd.rightBranch, Kd.cell, g0, g1, g2]
     rfl
   refine ⟨?_, h7⟩
   have h8 : Nd.rise cs = true := rise_pairwise _ (by
     rw [h1]
     refine kids_rise ks h5 fun x hx => ?_
     obtain ⟨-, _, _, _, _, _, _, _, _, g, -⟩ := h6 x hx
     exact g)
   have h9 : (d + 1 == 0) = false := rfl
   have h10 : cs.all (Nd.rightOne false) = true := List.all_eq_true.2 h7
   unfold Nd.right
   rw [h9, h8, h10, h1, h4]
   simp [Kd.cell, h4']
   rfl
end Tr
end Go.Proofs.YtjbcbnemdhbhbaaGreatDoor
namespace Go.Proofs.YtjbcbnemdhbhbaaGreatDoor
open Go.RowKit
set_option linter.unusedVariables false
set_option linter.unusedSimpArgs false
namespace Nd
def first (leaf : Bool) (key : ByteArray) (l : List Ce) : List Ce := if leaf then l else match l with | [] => [] | c :: t => { c with key := key } :: t
theorem first_len (leaf : Bool) (key : ByteArray) (l : List Ce) : (first leaf key l).length = l.length := by
 unfold first
 cases leaf
 · cases l <;> rfl
 · rfl
theorem sum_app (leaf : Bool) (a b : List Ce) : sum leaf (a ++ b) + 2 = sum leaf a + sum leaf b := by
 unfold sum
 rw [List.map_append, List.sum_append]
 omega
theorem sum_cons (leaf : Bool) (c : Ce) (l : List Ce) : sum leaf (c :: l) = size leaf c + sum leaf l := by
 unfold sum
 rw [List.map_cons, List.sum_cons]
 omega
theorem sum_first (leaf : Bool) (key : ByteArray) (l : List Ce) : sum leaf (first leaf key l) ≤ sum leaf l + key.size := by
 unfold first
 cases leaf
 · cases l with
   | nil => simp
   | cons c t =>
     rw [if_neg (by simp)]
     simp only [sum_cons]
     unfold size
     simp
     omega
 · simp
theorem sum_first_nil (leaf : Bool) (l : List Ce) : sum leaf (first leaf ⟨#[]⟩ l) ≤ sum leaf l := sum_first leaf ⟨#[]⟩ l
theorem size_ge (leaf : Bool) (c : Ce) : 7 ≤ size leaf c := by
 unfold size
 cases leaf
 · simp; omega
 · simp only [if_true]; split <;> omega
theorem sum_ge (leaf : Bool) : ∀ (l : List Ce), 2 + 7 * l.length ≤ sum leaf l
 | [] => by simp [sum]
 | c :: l => by
   have := sum_ge leaf l
   have := size_ge leaf c
   rw [sum_cons, List.length_cons]
   omega
theorem cut_two (l : List Ce) (hs : ∀ c ∈ l, size false c ≤ 128) (h0 : ∀ h : 0 < l.length, size false l[0] = 8) (h8 : ∀ c ∈ l, 8 ≤ size false c) (h1 : 488 < sum false l) : 2 ≤ cut false l ∧ cut false l + 2 ≤ l.length := by
 have hlen : ∀ j, j ≤ l.length → left false l j ≤ 2 + 128 * j := by
   intro j
   induction j with
   | zero => intro _; simp [left]
   | succ j ih =>
     intro hj
     have := left_next false l j (by omega)
     have := hs _ (List.getElem_mem (show j < l.length by omega))
     have := ih (by omega)
     omega
 have hend : sum false l = left false l l.length := by
   have := left_all false l l.length
   rw [List.drop_length] at this
   simp at this
   omega
 have hn : 4 ≤ l.length := by
   have := hlen l.length (Nat.le_refl _)
   omega
 obtain ⟨⟨a1, a2⟩, a3, a4⟩ := cutTo_best false l (l.length - 1) (by omega)
 have e0 : left false l 0 = 2 := by simp [left]
 have e1 : left false l 1 = left false l 0 + size false (l[0]'(by omega)) := left_next false l 0 (by omega)
 have e2 : left false l 2 = left false l 1 + size false (l[1]'(by omega)) := left_next false l 1 (by omega)
 have b0 := h0 (by omega)
 have b1 := hs _ (List.getElem_mem (show 1 < l.length by omega))
 have b1' := h8 _ (List.getElem_mem (show 1 < l.length by omega))
 have m2 := a4 2 (by omega) (by omega)
 obtain ⟨k, hk⟩ : ∃ k, l.length = k + 2 := ⟨l.length - 2, by omega⟩
 have f1 := left_next false l k (by omega)
 have f2 : left false l (k + 2) = left false l (k + 1) + size false (l[k + 1]'(by omega)) := left_next false l (k + 1) (by omega)
 have c1 := hs _ (List.getElem_mem (show k < l.length by omega))
 have c1' := h8 _ (List.getElem_mem (show k < l.length by omega))
 have c2 := hs _ (List.getElem_mem (show k + 1 < l.length by omega))
 have mk := a4 k (by omega) (by omega)
 rw [hk] at hend
 unfold most at a3 m2 mk
 unfold cut
 have hcl := left_all false l (cutTo false l (l.length - 1)).1
 constructor
 · by_cases e : (cutTo false l (l.length - 1)).1 = 1
   · rw [e] at a3
     omega
   · omega
 · by_cases e : (cutTo false l (l.length - 1)).1 = k + 1
   · rw [e] at a3
     omega
   · omega
end Nd
namespace Tr
theorem rising_app {a b : List En} (h : Rising (a ++ b)) : Rising a ∧ Rising b ∧ ∀ x ∈ a, ∀ y ∈ b, Nd.lt x.cell.key y.cell.key = true := by
 unfold Rising at h
 rw [List.pairwise_append] at h
 exact h
theorem flatMap_app {α β : Type} (f : α → List β) (a b : List α) : (a ++ b).flatMap f = a.flatMap f ++ b.flatMap f := by simp
theorem Part.cut {σ : Book} {d : Nat} {cs : List Ce} {P : List Nat} {L : List En} (h : Part σ d cs P L) (j : Nat) (h1 : 1 ≤ j) (h2 : j < cs.length) :
   ∃ P1 P2 L1 L2, P = P1 ++ P2 ∧ L = L1 ++ L2 ∧ Part σ d (cs.take j) P1 L1 ∧ Part σ d (Nd.first (d == 0) ⟨#[]⟩ (cs.drop j)) P2 L2 ∧ L1 ≠ [] ∧ L2 ≠ [] ∧ (∀ e ∈ L1, Nd.lt e.cell.key cs[j].key = true) ∧ (∀ e ∈ L2, Nd.lt e.cell.key cs[j].key = false) ∧ cs[j].key.size ≤ 120 := by
 have hr := h.right
 cases d with
 | zero =>
   obtain ⟨g1, g2, g3, g4⟩ := h
   have hl : cs.length = L.length := by rw [g1, List.length_map]
   have e : L = L.take j ++ L.drop j := (List.take_append_drop j L).symm
   rw [e] at g3
   obtain ⟨r1, r2, r3⟩ := rising_app g3
   have hk : cs[j] = (L[j]'(by omega)).cell := by simp [g1]
   have hd : L.drop j = L[j]'(by omega) :: L.drop (j + 1) := List.drop_eq_getElem_cons (by omega)
   refine ⟨(L.take j).flatMap (·.pages), (L.drop j).flatMap (·.pages), L.take j, L.drop j, by rw [g2, ← flatMap_app, List.take_append_drop], e, ⟨by rw [g1, List.map_take], rfl, r1, fun x hx => g4 x (List.mem_of_mem_take hx)⟩, ⟨?_, rfl, r2, fun x hx => g4 x (List.mem_of_mem_drop hx)⟩, ?_, ?_, ?_, ?_, ?_⟩
   · show cs.drop j = _
     rw [g1, List.map_drop]
   · intro hn
     have := congrArg List.length hn
     rw [List.length_take, List.length_nil] at this
     omega
   · rw [hd]; exact List.cons_ne_nil _ _
   · intro x hx
     rw [hk]
     exact r3 x hx _ (by rw [hd]; exact List.mem_cons.2 (.inl rfl))
   · intro x hx
     rw [hk]
     rw [hd] at hx r2
     rcases List.mem_cons.1 hx with rfl | hx
     · exact Nd.lt_irrefl _
     · exact le_of_lt ((List.pairwise_cons.1 r2).1 x hx)
   · have := hr.2 cs[j] (List.getElem_mem h2)
     unfold Nd.rightOne Nd.rightLeaf at this
     simp at this
     omega
 | succ d =>
   obtain ⟨ks, g1, g2, g3, ⟨k, t, g4, g4'⟩, g5, g6⟩ := h
   have hl : cs.length = ks.length := by rw [g1, List.length_map]
   have e : ks = ks.take j ++ ks.drop j := (List.take_append_drop j ks).symm
   obtain ⟨k2, hk2⟩ : ∃ x, x = ks[j]'(by omega) := ⟨_, rfl⟩
   have hd : ks.drop j = k2 :: ks.drop (j + 1) := by rw [hk2]; exact List.drop_eq_getElem_cons (by omega)
   have hk : cs[j] = k2.cell := by rw [hk2]; simp [g1]
   have hne : ∀ x ∈ ks, x.L ≠ [] := fun x hx => by
     obtain ⟨-, _, _, _, _, _, _, _, _, g, -⟩ := g6 x hx
     exact g
   have hin : k2 ∈ ks := by rw [hk2]; exact List.getElem_mem (by omega)
   rw [e, List.map_append, sep_app, hd, List.map_cons, sep_cons] at g5
   obtain ⟨s1, ⟨⟨s2, s3⟩, s4⟩, s5⟩ := g5
   refine ⟨(ks.take j).flatMap (·.P), (ks.drop j).flatMap (·.P), (ks.take j).flatMap (·.L), (ks.drop j).flatMap (·.L), by rw [g2, ← flatMap_app, List.take_append_drop], by rw [g3, ← flatMap_app, List.take_append_drop],
     ⟨ks.take j, by rw [g1, List.map_take], rfl, rfl, ?_, s1, fun x hx => g6 x (List.mem_of_mem_take hx)⟩, ⟨{ k2 with key := ⟨#[]⟩ } :: ks.drop (j + 1), ?_, ?_, ?_, ⟨_, _, rfl, rfl⟩, ?_, ?_⟩, ?_, ?_, ?_, ?_, ?_⟩
   · obtain ⟨m, rfl⟩ : ∃ m, j = m + 1 := ⟨j - 1, by omega⟩
     exact ⟨k, t.take m, by rw [g4, List.take_succ_cons], g4'⟩
   · show Nd.first false ⟨#[]⟩ (cs.drop j) = _
     rw [g1, ← List.map_drop, hd]
     rfl
   · rw [hd]; rfl
   · rw [hd]; rfl
   · rw [List.map_cons, sep_cons]
     exact ⟨⟨s2, fun x hx => le_nil _⟩, s4⟩
   · intro x hx
     rcases List.mem_cons.1 hx with rfl | hx
     · exact ⟨⟨by show (0 : Nat) ≤ 120; omega, (g6 k2 hin).1.2⟩, (g6 k2 hin).2⟩
     · exact g6 x (List.mem_of_mem_drop hx)
   · obtain ⟨m, rfl⟩ : ∃ m, j = m + 1 := ⟨j - 1, by omega⟩
     rw [g4, List.take_succ_cons, List.flatMap_cons]
     have := hne k (by rw [g4]; simp)
     simp [this]
   · rw [hd, List.flatMap_cons]
     have := hne k2 hin
     simp [this]
   · intro x hx
     rw [hk]
     obtain ⟨y, hy, hx⟩ := List.mem_flatMap.1 hx
     exact s5 y.rg (List.mem_map_of_mem hy) k2.rg (by simp) x hx
   · intro x hx
     rw [hk]
     rw [hd, List.flatMap_cons] at hx
     rcases List.mem_append.1 hx with hx | hx
     · exact s3 x hx
     · obtain ⟨y, hy, hx⟩ := List.mem_flatMap.1 hx
       obtain ⟨z, t2, hz⟩ := List.exists_cons_of_ne_nil (hne k2 hin)
       have hz : z ∈ k2.L := by rw [hz]; simp
       have q1 := s3 z hz
       have q2 := s2 y.rg (List.mem_map_of_mem hy) z hz
       have q3 := s4.2 y.rg (List.mem_map_of_mem hy) x hx
       exact le_of_lt (lt_le (le_lt q1 q2) q3)
   · rw [hk]; exact (g6 k2 hin).1.1
theorem Part.join {σ : Book} {d : Nat} {a b : List Ce} {Pa Pb : List Nat} {La Lb : List En} {key : ByteArray} (ha : Part σ d a Pa La) (hb : Part σ d b Pb Lb) (h1 : ∀ e ∈ La, Nd.lt e.cell.key key = true) (h2 : ∀ e ∈ Lb, Nd.lt e.cell.key key = false) (hk : key.size ≤ 120) :
   Part σ d (a ++ Nd.first (d == 0) key b) (Pa ++ Pb) (La ++ Lb) := by
 cases d with
 | zero =>
   obtain ⟨a1, a2, a3, a4⟩ := ha
   obtain ⟨b1, b2, b3, b4⟩ := hb
   refine ⟨?_, by rw [a2, b2, flatMap_app], List.pairwise_append.2 ⟨a3, b3, fun x hx y hy => lt_le (h1 x hx) (h2 y hy)⟩, fun e he => by rcases List.mem_append.1 he with he | he; exact a4 e he; exact b4 e he⟩
   show a ++ b = _
   rw [a1, b1, List.map_append]
 | succ d =>
   obtain ⟨ks, a1, a2, a3, ⟨k, t, a4, a4'⟩, a5, a6⟩ := ha
   obtain ⟨js, b1, b2, b3, ⟨j, u, b4, b4'⟩, b5, b6⟩ := hb
   subst b4
   obtain ⟨z, t2, hz⟩ := List.exists_cons_of_ne_nil (show j.L ≠ [] by
     obtain ⟨-, _, _, _, _, _, _, _, _, g, -⟩ := b6 j (by simp)
     exact g)
   have hz : z ∈ j.L := by rw [hz]; simp
   rw [List.map_cons, sep_cons] at b5
   have hLb : ∀ x ∈ j.L, x ∈ Lb := fun x hx => by rw [b3]; exact List.mem_flatMap.2 ⟨j, by simp, hx⟩
   have hLa : ∀ x ∈ ks, ∀ e ∈ x.L, e ∈ La := fun x hx e he => by rw [a3]; exact List.mem_flatMap.2 ⟨x, hx, he⟩
   refine ⟨ks ++ { j with key := key } :: u, ?_, ?_, ?_, ⟨k, t ++ { j with key := key } :: u, by rw [a4]; rfl, a4'⟩, ?_, ?_⟩
   · show a ++ Nd.first false key b = _
     rw [a1, b1]
     simp only [List.map_append, List.map_cons]
     rfl
   · rw [a2, b2, flatMap_app, List.flatMap_cons, List.flatMap_cons]
   · rw [a3, b3, flatMap_app, List.flatMap_cons, List.flatMap_cons]
   · rw [List.map_append, List.map_cons, sep_app, sep_cons]
     refine ⟨a5, ⟨⟨b5.1.1, fun e he => h2 e (hLb e he)⟩, b5.2⟩, ?_⟩
     intro x hx y hy e he
     obtain ⟨x', hx', rfl⟩ := List.mem_map.1 hx
     have q1 := h1 e (hLa x' hx' e he)
     rcases List.mem_cons.1 hy with rfl | hy
     · exact q1
     · exact Nd.lt_trans (lt_le q1 (h2 z (hLb z hz))) (b5.1.1 y hy z hz)
   · intro x hx
     rcases List.mem_append.1 hx with hx | hx
     · exact a6 x hx
     · rcases List.mem_cons.1 hx with rfl | hx
       · exact ⟨⟨hk, (b6 j (by simp)).1.2⟩, (b6 j (by simp)).2⟩
       · exact b6 x (by simp [hx])
structure Pd where
 key : ByteArray
 cs : List Ce
 P : List Nat
 L : List En
def Pd.pt (leaf : Bool) (x : Pd) : Pt := ⟨x.key, leaf, x.cs⟩
def Pd.rg (x : Pd) : ByteArray × List En := (x.key, x.L)
def Good (leaf : Bool) (cs : List Ce) (L : List En) : Prop := L ≠ [] ∧ (leaf = false → 2 ≤ cs.length)
structure Parts (σ : Book) (d : Nat) (key : ByteArray) (ps : List Pt) (P : List Nat) (L : List En) (xs : List Pd) : Prop where
 pts : ps = xs.map (Pd.pt (d == 0))
 pages : P = xs.flatMap (·.P)
 ents : L = xs.flatMap (·.L)
 head : ∃ x t, xs = x :: t ∧ x.key = key
 sep : Sep (xs.map Pd.rg)
 each : ∀ x ∈ xs, x.key.size ≤ 120 ∧ Nd.sum (d == 0) x.cs ≤ 488 ∧ Part σ d x.cs x.P x.L
 count : xs.length = 1 ∨ (xs.length = 2 ∧ ∀ x ∈ xs, Good (d == 0) x.cs x.L ∧ Fat d x.L)
def partsL (key : ByteArray) (leaf : Bool) (cs : List Ce) : List Pt :=
 if Nd.sum leaf cs ≤ 488 then [⟨key, leaf, cs⟩] else [⟨key, leaf, cs.take (Nd.cut leaf cs)⟩, ⟨(cs.getD (Nd.cut leaf cs) Ce.zero).key, leaf, Nd.first leaf ⟨#[]⟩ (cs.drop (Nd.cut leaf cs))⟩]
theorem Part.sizes {σ : Book} {d : Nat} {cs : List Ce} {P : List Nat} {L : List En} (h : Part σ d cs P L) : ∀ c ∈ cs, 8 ≤ Nd.size (d == 0) c ∧ Nd.size (d == 0) c ≤ 223 := fun c hc => Nd.size_le (h.right.2 c hc)
theorem Part.branch_sizes {σ : Book} {d : Nat} {cs : List Ce} {P : List Nat} {L : List En} (h : Part σ (d + 1) cs P L) : (∀ c ∈ cs, Nd.size false c ≤ 128) ∧ ∀ h : 0 < cs.length, Nd.size false cs[0] = 8 := by
 obtain ⟨ks, g1, g2, g3, ⟨k, t, g4, g4'⟩, g5, g6⟩ := h
 subst g1
 refine ⟨fun c hc => ?_, fun h => ?_⟩
 · obtain ⟨x, hx, rfl⟩ := List.mem_map.1 hc
   have := (g6 x hx).1.1
   simp [Nd.size, Kd.cell]
   omega
 · subst g4
   simp [Nd.size, Kd.cell, g4']
   rfl
theorem Part.parts {σ : Book} {d : Nat} {cs : List Ce} {P : List Nat} {L : List En} (h : Part σ d cs P L) (key : ByteArray) (hk : ∀ e ∈ L, Nd.lt e.cell.key key = false) (hks : key.size ≤ 120) (hs : Nd.sum (d == 0) cs ≤ 750) :
   ∃ xs, Parts σ d key (partsL key (d == 0) cs) P L xs := by
 unfold partsL
 by_cases hf : Nd.sum (d == 0) cs ≤ 488
 · rw [if_pos hf]
   exact ⟨[⟨key, cs, P, L⟩], rfl, by simp, by simp, ⟨_, _, rfl, rfl⟩, ⟨by simp, fun x hx => by
     have : x = (key, L) := by simpa [Pd.rg] using hx
     subst this
     exact hk⟩, fun x hx => by
     obtain rfl := List.mem_singleton.1 hx
     exact ⟨hks, hf, h⟩, .inl rfl⟩
 · rw [if_neg hf]
   obtain ⟨c1, c2, c3, c4⟩ := Nd.cut_fits (d == 0) cs 223 (fun c hc => (h.sizes c hc).2) (Nat.le_refl _) (by omega) hs
   obtain ⟨P1, P2, L1, L2, p1, p2, p3, p4, p5, p6, p7, p8, p9⟩ := h.cut (Nd.cut (d == 0) cs) c1 (by omega)
   have hg : cs.getD (Nd.cut (d == 0) cs) Ce.zero = cs[Nd.cut (d == 0) cs]'(by omega) := by simp [List.getD, List.getElem?_eq_getElem (show Nd.cut (d == 0) cs < cs.length by omega)]
   rw [hg]
   have htw : (d == 0) = false → 2 ≤ (cs.take (Nd.cut (d == 0) cs)).length ∧ 2 ≤ (Nd.first (d == 0) ⟨#[]⟩ (cs.drop (Nd.cut (d == 0) cs))).length := by
     intro hd
     cases d with
     | zero => cases hd
     | succ d =>
       obtain ⟨s1, s2⟩ := h.branch_sizes
       have hz : (d + 1 == 0) = false := rfl
       rw [hz] at hf c2 ⊢
       have := Nd.cut_two cs s1 s2 (fun c hc => by have := (h.sizes c hc).1; rwa [hz] at this) (by omega)
       rw [Nd.first_len, List.length_take, List.length_drop]
       omega
   refine ⟨[⟨key, _, P1, L1⟩, ⟨_, _, P2, L2⟩], rfl, by simp [p1], by simp [p2], ⟨_, _, rfl, rfl⟩, ?_, ?_, .inr ⟨rfl, ?_⟩⟩
   · show Sep ((key, L1) :: [((cs[Nd.cut (d == 0) cs]'(by omega)).key, L2)])
     rw [sep_cons]
     refine ⟨⟨fun b hb => ?_, fun e he => hk e (by rw [p2]; simp [he])⟩, by simp, fun x hx => ?_⟩
     · obtain rfl := List.mem_singleton.1 hb
       exact p7
     · obtain rfl := List.mem_singleton.1 hx
       exact p8
   · intro x hx
     rcases List.mem_cons.1 hx with rfl | hx
     · exact ⟨hks, c3, p3⟩
     · obtain rfl := List.mem_singleton.1 hx
       exact ⟨p9, Nat.le_trans (Nd.sum_first_nil _ _) c4, p4⟩
   · intro x hx
     have hcf := Nd.cut_fat (d == 0) cs 223 (fun c hc => (h.sizes c hc).2) (Nat.le_refl _) (by omega) hs
     rcases List.mem_cons.1 hx with rfl | hx
     · refine ⟨⟨p5, fun hd => (htw hd).1⟩, fun hd => ?_⟩
       subst hd
       have h9 := p3.1
       rw [← h9]
       exact hcf.1
     · obtain rfl := List.mem_singleton.1 hx
       refine ⟨⟨p6, fun hd => (htw hd).2⟩, fun hd => ?_⟩
       subst hd
       have h9 := p4.1
       rw [← h9]
       exact hcf.2
end Tr
end Go.Proofs.YtjbcbnemdhbhbaaGreatDoor
