/- Merged by program: PlainTree PlainTree2 PlainTree3 PlainTree4 Pages TreeB Parts Parts2. -/
import Derived.Test.YtllafbcnikoohaaC4
import Derived.Deep.QuietTactic
import Derived.BigQuiet
import Derived.Laws.OwnMore
/- A tree in pages, plain: which pages it has, its entries in order; how it is cut and joined. -/
namespace Go.Proofs.Ytllafbcnikoohaa
open Go.RowKit
set_option linter.unusedVariables false
set_option linter.unusedSimpArgs false
/-- A page: its kind, its bytes. -/
structure Pgg where
  kind : Nat
  body : ByteArray
abbrev Book := Nat → Option Pgg
/-- A leaf's entry: its cell, the pages of its value, its value. -/
structure En where
  cell : Ce
  pages : List Nat
  val : List UInt8
/-- A branch's kid: its key, its page, the pages below, the entries below. -/
structure Kd where
  key : ByteArray
  no : Nat
  P : List Nat
  L : List En
def Kd.cell (k : Kd) : Ce := ⟨k.key, ⟨#[]⟩, 0, 0, k.no⟩
def Kd.rg (k : Kd) : ByteArray × List En := (k.key, k.L)
namespace Tr
/-- The pages of a long value. -/
def Chain (σ : Book) : Nat → List Nat → List UInt8 → Prop
  | no, [], v => no = 0 ∧ v = []
  | no, n :: ns, v => no = n ∧ 1 ≤ n ∧ n < 512 ∧ ∃ (next : Nat) (piece rest : List UInt8), σ n = some ⟨3, ⟨(Be.low next 4 ++ piece).toArray⟩⟩ ∧ next < 512 ∧ v = piece ++ rest ∧ 0 < piece.length ∧ piece.length ≤ 484 ∧ (next ≠ 0 → piece.length = 484) ∧ Chain σ next ns rest
def EnOk (σ : Book) (e : En) : Prop := Nd.rightLeaf e.cell = true ∧ ((e.cell.over = 0 ∧ e.pages = [] ∧ e.val = e.cell.val.data.toList) ∨ (e.cell.over ≠ 0 ∧ Chain σ e.cell.over e.pages e.val ∧ e.val.length = e.cell.size))
def Rising (L : List En) : Prop := L.Pairwise fun a b => Nd.lt a.cell.key b.cell.key = true
/-- Keys that part entries. -/
def Sep (l : List (ByteArray × List En)) : Prop := l.Pairwise (fun a b => ∀ e ∈ a.2, Nd.lt e.cell.key b.1 = true) ∧ ∀ a ∈ l, ∀ e ∈ a.2, Nd.lt e.cell.key a.1 = false
def StoredBy (Q : List Ce → List Nat → List En → Prop) (leaf : Bool) (σ : Book) (no : Nat) (P : List Nat) (L : List En) : Prop :=
  ∃ (cs : List Ce) (P' : List Nat), P = no :: P' ∧ 1 ≤ no ∧ no < 512 ∧ σ no = some ⟨if leaf then 1 else 2, Nd.str leaf cs⟩ ∧ Q cs P' L ∧ Nd.sum leaf cs ≤ 488 ∧ L ≠ [] ∧ (leaf = false → 2 ≤ cs.length)
def Part (σ : Book) : Nat → List Ce → List Nat → List En → Prop
  | 0, cs, P, L => cs = L.map (·.cell) ∧ P = L.flatMap (·.pages) ∧ Rising L ∧ ∀ e ∈ L, EnOk σ e
  | d + 1, cs, P, L => ∃ ks : List Kd, cs = ks.map Kd.cell ∧ P = ks.flatMap (·.P) ∧ L = ks.flatMap (·.L) ∧ (∃ k t, ks = k :: t ∧ k.key = ⟨#[]⟩) ∧ Sep (ks.map Kd.rg) ∧ ∀ k ∈ ks, k.key.size ≤ 120 ∧ StoredBy (Part σ d) (d == 0) σ k.no k.P k.L
def Stored (σ : Book) (d : Nat) : Nat → List Nat → List En → Prop := StoredBy (Part σ d) (d == 0) σ
/-- A tree's root. -/
def Root (σ : Book) (root : Nat) (P : List Nat) (L : List En) : Prop := (root = 0 ∧ P = [] ∧ L = []) ∨ ∃ d, Stored σ d root P L

theorem lt_le {a b c : ByteArray} (h1 : Nd.lt a b = true) (h2 : Nd.lt c b = false) : Nd.lt a c = true := by
  rcases Nd.lt_total b c with h | h | h
  · exact Nd.lt_trans h1 h
  · subst h; exact h1
  · rw [h2] at h; cases h
theorem le_lt {a b c : ByteArray} (h1 : Nd.lt b a = false) (h2 : Nd.lt b c = true) : Nd.lt a c = true := by
  rcases Nd.lt_total a b with h | h | h
  · exact Nd.lt_trans h h2
  · subst h; exact h2
  · rw [h1] at h; cases h
theorem le_le {a b c : ByteArray} (h1 : Nd.lt b a = false) (h2 : Nd.lt c b = false) : Nd.lt c a = false := by
  cases h : Nd.lt c a with
  | false => rfl
  | true => rw [lt_le h h1] at h2; cases h2
theorem le_of_lt {a b : ByteArray} (h : Nd.lt a b = true) : Nd.lt b a = false := Nd.lt_asymm h
theorem le_nil (a : ByteArray) : Nd.lt a ⟨#[]⟩ = false := by
  unfold Nd.lt
  have e : (⟨#[]⟩ : ByteArray).toList = [] := by rw [ByteArray.toList_eq]
  rw [e]
  cases a.toList <;> rfl
theorem nil_key {a : ByteArray} (h : a.size = 0) : a = ⟨#[]⟩ := str_nil h

theorem rise_pairwise : ∀ (l : List Ce), l.Pairwise (fun a b => Nd.lt a.key b.key = true) → Nd.rise l = true
  | [], _ => rfl
  | [_], _ => rfl
  | a :: b :: l, h => by
    rw [List.pairwise_cons] at h
    simp only [Nd.rise, Bool.and_eq_true]
    exact ⟨h.1 b (by simp), rise_pairwise (b :: l) h.2⟩
theorem Chain.congr {σ σ' : Book} : ∀ {ns : List Nat} {no : Nat} {v : List UInt8}, Chain σ no ns v → (∀ n ∈ ns, σ' n = σ n) → Chain σ' no ns v
  | [], _, _, h, _ => h
  | n :: ns, _, _, ⟨h1, h2, h3, next, piece, rest, h4, h5, h6, h7, h8, h9, h10⟩, hk =>
    ⟨h1, h2, h3, next, piece, rest, (hk n (by simp)).trans h4, h5, h6, h7, h8, h9, h10.congr fun m hm => hk m (by simp [hm])⟩
theorem Chain.mem {σ : Book} : ∀ {ns : List Nat} {no : Nat} {v : List UInt8}, Chain σ no ns v → ∀ n ∈ ns, 1 ≤ n ∧ n < 512 ∧ σ n ≠ none
  | n :: ns, _, _, ⟨h1, h2, h3, next, piece, rest, h4, h5, h6, h7, h8, h9, h10⟩, m, hm => by
    rcases List.mem_cons.1 hm with rfl | hm
    · exact ⟨h2, h3, by rw [h4]; simp⟩
    · exact h10.mem m hm
theorem EnOk.congr {σ σ' : Book} {e : En} (h : EnOk σ e) (hk : ∀ n ∈ e.pages, σ' n = σ n) : EnOk σ' e :=
  ⟨h.1, h.2.imp id fun ⟨a, b, c⟩ => ⟨a, b.congr hk, c⟩⟩
theorem EnOk.mem {σ : Book} {e : En} (h : EnOk σ e) : ∀ n ∈ e.pages, 1 ≤ n ∧ n < 512 ∧ σ n ≠ none := by
  rcases h.2 with ⟨-, h2, -⟩ | ⟨-, h2, -⟩
  · rw [h2]; simp
  · exact h2.mem
theorem storedBy_congr {Q Q' : List Ce → List Nat → List En → Prop} {leaf : Bool} {σ σ' : Book} {no : Nat} {P : List Nat} {L : List En} (h : StoredBy Q leaf σ no P L) (hk : ∀ n ∈ P, σ' n = σ n) (hQ : ∀ cs P', (∀ n ∈ P', n ∈ P) → Q cs P' L → Q' cs P' L) : StoredBy Q' leaf σ' no P L := by
  obtain ⟨cs, P', rfl, h1, h2, h3, h4, h5⟩ := h
  exact ⟨cs, P', rfl, h1, h2, (hk no (by simp)).trans h3, hQ cs P' (fun n hn => by simp [hn]) h4, h5⟩
theorem Part.congr {σ σ' : Book} : ∀ {d : Nat} {cs : List Ce} {P : List Nat} {L : List En}, Part σ d cs P L → (∀ n ∈ P, σ' n = σ n) → Part σ' d cs P L
  | 0, cs, P, L, ⟨h1, h2, h3, h4⟩, hk => ⟨h1, h2, h3, fun e he => (h4 e he).congr fun n hn => hk n (by rw [h2]; exact List.mem_flatMap.2 ⟨e, he, hn⟩)⟩
  | d + 1, cs, P, L, ⟨ks, h1, h2, h3, h4, h5, h6⟩, hk => ⟨ks, h1, h2, h3, h4, h5, fun k hkm => ⟨(h6 k hkm).1, storedBy_congr (h6 k hkm).2 (fun n hn => hk n (by rw [h2]; exact List.mem_flatMap.2 ⟨k, hkm, hn⟩)) (fun cs P' hP hq => Part.congr hq fun n hn => hk n (by rw [h2]; exact List.mem_flatMap.2 ⟨k, hkm, hP n hn⟩))⟩⟩
theorem Stored.congr {σ σ' : Book} {d no : Nat} {P : List Nat} {L : List En} (h : Stored σ d no P L) (hk : ∀ n ∈ P, σ' n = σ n) : Stored σ' d no P L :=
  storedBy_congr h hk fun cs P' hP hq => hq.congr fun n hn => hk n (hP n hn)
theorem Part.mem {σ : Book} : ∀ {d : Nat} {cs : List Ce} {P : List Nat} {L : List En}, Part σ d cs P L → ∀ n ∈ P, 1 ≤ n ∧ n < 512 ∧ σ n ≠ none
  | 0, cs, P, L, ⟨h1, h2, h3, h4⟩, n, hn => by
    rw [h2] at hn
    obtain ⟨e, he, hn⟩ := List.mem_flatMap.1 hn
    exact (h4 e he).mem n hn
  | d + 1, cs, P, L, ⟨ks, h1, h2, h3, h4, h5, h6⟩, n, hn => by
    rw [h2] at hn
    obtain ⟨k, hk, hn⟩ := List.mem_flatMap.1 hn
    obtain ⟨cs, P', hP, g1, g2, g3, g4, g5⟩ := (h6 k hk).2
    rw [hP] at hn
    rcases List.mem_cons.1 hn with rfl | hn
    · exact ⟨g1, g2, by rw [g3]; simp⟩
    · exact g4.mem n hn
theorem Stored.mem {σ : Book} {d no : Nat} {P : List Nat} {L : List En} (h : Stored σ d no P L) : ∀ n ∈ P, 1 ≤ n ∧ n < 512 ∧ σ n ≠ none := by
  obtain ⟨cs, P', rfl, g1, g2, g3, g4, g5⟩ := h
  intro n hn
  rcases List.mem_cons.1 hn with rfl | hn
  · exact ⟨g1, g2, by rw [g3]; simp⟩
  · exact g4.mem n hn
theorem sep_cons {a : ByteArray × List En} {l : List (ByteArray × List En)} : Sep (a :: l) ↔ ((∀ b ∈ l, ∀ e ∈ a.2, Nd.lt e.cell.key b.1 = true) ∧ ∀ e ∈ a.2, Nd.lt e.cell.key a.1 = false) ∧ Sep l := by
  unfold Sep
  rw [List.pairwise_cons]
  constructor
  · rintro ⟨⟨h1, h2⟩, h3⟩
    exact ⟨⟨h1, h3 a (by simp)⟩, h2, fun x hx => h3 x (by simp [hx])⟩
  · rintro ⟨⟨h1, h2⟩, h3, h4⟩
    exact ⟨⟨h1, h3⟩, fun x hx => by rcases List.mem_cons.1 hx with rfl | hx; exact h2; exact h4 x hx⟩
theorem sep_app {a b : List (ByteArray × List En)} : Sep (a ++ b) ↔ Sep a ∧ Sep b ∧ ∀ x ∈ a, ∀ y ∈ b, ∀ e ∈ x.2, Nd.lt e.cell.key y.1 = true := by
  unfold Sep
  rw [List.pairwise_append]
  constructor
  · rintro ⟨⟨h1, h2, h3⟩, h4⟩
    exact ⟨⟨h1, fun x hx => h4 x (by simp [hx])⟩, ⟨h2, fun x hx => h4 x (by simp [hx])⟩, h3⟩
  · rintro ⟨⟨h1, h2⟩, ⟨h3, h4⟩, h5⟩
    exact ⟨⟨h1, h3, h5⟩, fun x hx => by rcases List.mem_append.1 hx with hx | hx; exact h2 x hx; exact h4 x hx⟩
theorem rising_flat : ∀ (ks : List Kd), Sep (ks.map Kd.rg) → (∀ k ∈ ks, Rising k.L) → Rising (ks.flatMap (·.L))
  | [], _, _ => List.Pairwise.nil
  | k :: ks, h, hr => by
    rw [List.map_cons, sep_cons] at h
    rw [List.flatMap_cons]
    refine List.pairwise_append.2 ⟨hr k (by simp), rising_flat ks h.2 fun x hx => hr x (by simp [hx]), ?_⟩
    intro a ha b hb
    obtain ⟨x, hx, hb⟩ := List.mem_flatMap.1 hb
    have h1 := h.1.1 x.rg (List.mem_map_of_mem hx) a ha
    have h2 := h.2.2 x.rg (List.mem_map_of_mem hx) b hb
    exact lt_le h1 h2
theorem Part.rising {σ : Book} : ∀ {d : Nat} {cs : List Ce} {P : List Nat} {L : List En}, Part σ d cs P L → Rising L
  | 0, cs, P, L, ⟨h1, h2, h3, h4⟩ => h3
  | d + 1, cs, P, L, ⟨ks, h1, h2, h3, h4, h5, h6⟩ => by
    rw [h3]
    refine rising_flat ks h5 fun k hk => ?_
    obtain ⟨cs, P', hP, g1, g2, g3, g4, g5⟩ := (h6 k hk).2
    exact g4.rising
/-- Keys of kids that are there rise. -/
theorem kids_rise : ∀ (ks : List Kd), Sep (ks.map Kd.rg) → (∀ k ∈ ks, k.L ≠ []) → (ks.map Kd.cell).Pairwise (fun a b => Nd.lt a.key b.key = true)
  | [], _, _ => List.Pairwise.nil
  | k :: ks, h, hn => by
    rw [List.map_cons, sep_cons] at h
    rw [List.map_cons, List.pairwise_cons]
    refine ⟨fun c hc => ?_, kids_rise ks h.2 fun x hx => hn x (by simp [hx])⟩
    obtain ⟨x, hx, rfl⟩ := List.mem_map.1 hc
    obtain ⟨e, t, he⟩ := List.exists_cons_of_ne_nil (hn k (by simp))
    have he : e ∈ k.L := by rw [he]; simp
    exact le_lt (h.1.2 e he) (h.1.1 x.rg (List.mem_map_of_mem hx) e he)
theorem Part.right {σ : Book} {d : Nat} {cs : List Ce} {P : List Nat} {L : List En} (h : Part σ d cs P L) : Nd.right (d == 0) cs = true ∧ ∀ c ∈ cs, Nd.rightOne (d == 0) c = true := by
  cases d with
  | zero =>
    obtain ⟨h1, h2, h3, h4⟩ := h
    have h5 : ∀ c ∈ cs, Nd.rightOne true c = true := fun c hc => by
      rw [h1] at hc
      obtain ⟨e, he, rfl⟩ := List.mem_map.1 hc
      exact (h4 e he).1
    refine ⟨?_, h5⟩
    unfold Nd.right
    have h6 : Nd.rise cs = true := rise_pairwise _ (by rw [h1]; exact List.pairwise_map.2 h3)
    simp only [beq_self_eq_true, Bool.true_or, Bool.true_and, h6, Bool.and_true]
    exact List.all_eq_true.2 h5
  | succ d =>
    obtain ⟨ks, h1, h2, h3, ⟨k, t, h4, h4'⟩, h5, h6⟩ := h
    have h7 : ∀ c ∈ cs, Nd.rightOne false c = true := fun c hc => by
      rw [h1] at hc
      obtain ⟨x, hx, rfl⟩ := List.mem_map.1 hc
      obtain ⟨g0, _, _, _, g1, g2, -⟩ := h6 x hx
      simp [Nd.rightOne, Nd.rightBranch, Kd.cell, g0, g1, g2]
      rfl
    refine ⟨?_, h7⟩
    have h8 : Nd.rise cs = true := rise_pairwise _ (by
      rw [h1]
      refine kids_rise ks h5 fun x hx => ?_
      obtain ⟨-, _, _, _, _, _, _, _, _, g, -⟩ := h6 x hx
      exact g)
    have h9 : (d + 1 == 0) = false := rfl
    have h10 : cs.all (Nd.rightOne false) = true := List.all_eq_true.2 h7
    unfold Nd.right
    rw [h9, h8, h10, h1, h4]
    simp [Kd.cell, h4']
    rfl
end Tr
end Go.Proofs.Ytllafbcnikoohaa
/- A tree in pages, plain: nodes that are cut, joined, and replaced. -/
namespace Go.Proofs.Ytllafbcnikoohaa
open Go.RowKit
set_option linter.unusedVariables false
set_option linter.unusedSimpArgs false
namespace Nd
/-- A node's cells where the first one's key is another one. -/
def first (leaf : Bool) (key : ByteArray) (l : List Ce) : List Ce := if leaf then l else match l with | [] => [] | c :: t => { c with key := key } :: t
theorem first_len (leaf : Bool) (key : ByteArray) (l : List Ce) : (first leaf key l).length = l.length := by
  unfold first
  cases leaf
  · cases l <;> rfl
  · rfl
theorem first_true (key : ByteArray) (l : List Ce) : first true key l = l := rfl
theorem sum_app (leaf : Bool) (a b : List Ce) : sum leaf (a ++ b) + 2 = sum leaf a + sum leaf b := by
  unfold sum
  rw [List.map_append, List.sum_append]
  omega
theorem sum_cons (leaf : Bool) (c : Ce) (l : List Ce) : sum leaf (c :: l) = size leaf c + sum leaf l := by
  unfold sum
  rw [List.map_cons, List.sum_cons]
  omega
theorem sum_first (leaf : Bool) (key : ByteArray) (l : List Ce) : sum leaf (first leaf key l) ≤ sum leaf l + key.size := by
  unfold first
  cases leaf
  · cases l with
    | nil => simp
    | cons c t =>
      rw [if_neg (by simp)]
      simp only [sum_cons]
      unfold size
      simp
      omega
  · simp
theorem sum_first_nil (leaf : Bool) (l : List Ce) : sum leaf (first leaf ⟨#[]⟩ l) ≤ sum leaf l := sum_first leaf ⟨#[]⟩ l
theorem size_ge (leaf : Bool) (c : Ce) : 7 ≤ size leaf c := by
  unfold size
  cases leaf
  · simp; omega
  · simp only [if_true]; split <;> omega
theorem sum_ge (leaf : Bool) : ∀ (l : List Ce), 2 + 7 * l.length ≤ sum leaf l
  | [] => by simp [sum]
  | c :: l => by
    have := sum_ge leaf l
    have := size_ge leaf c
    rw [sum_cons, List.length_cons]
    omega
/-- A branch that is cut has two cells on each side. -/
theorem cut_two (l : List Ce) (hs : ∀ c ∈ l, size false c ≤ 128) (h0 : ∀ h : 0 < l.length, size false l[0] = 8) (h8 : ∀ c ∈ l, 8 ≤ size false c) (h1 : 488 < sum false l) : 2 ≤ cut false l ∧ cut false l + 2 ≤ l.length := by
  have hlen : ∀ j, j ≤ l.length → left false l j ≤ 2 + 128 * j := by
    intro j
    induction j with
    | zero => intro _; simp [left]
    | succ j ih =>
      intro hj
      have := left_next false l j (by omega)
      have := hs _ (List.getElem_mem (show j < l.length by omega))
      have := ih (by omega)
      omega
  have hend : sum false l = left false l l.length := by
    have := left_all false l l.length
    rw [List.drop_length] at this
    simp at this
    omega
  have hn : 4 ≤ l.length := by
    have := hlen l.length (Nat.le_refl _)
    omega
  obtain ⟨⟨a1, a2⟩, a3, a4⟩ := cutTo_best false l (l.length - 1) (by omega)
  have e0 : left false l 0 = 2 := by simp [left]
  have e1 : left false l 1 = left false l 0 + size false (l[0]'(by omega)) := left_next false l 0 (by omega)
  have e2 : left false l 2 = left false l 1 + size false (l[1]'(by omega)) := left_next false l 1 (by omega)
  have b0 := h0 (by omega)
  have b1 := hs _ (List.getElem_mem (show 1 < l.length by omega))
  have b1' := h8 _ (List.getElem_mem (show 1 < l.length by omega))
  have m2 := a4 2 (by omega) (by omega)
  obtain ⟨k, hk⟩ : ∃ k, l.length = k + 2 := ⟨l.length - 2, by omega⟩
  have f1 := left_next false l k (by omega)
  have f2 : left false l (k + 2) = left false l (k + 1) + size false (l[k + 1]'(by omega)) := left_next false l (k + 1) (by omega)
  have c1 := hs _ (List.getElem_mem (show k < l.length by omega))
  have c1' := h8 _ (List.getElem_mem (show k < l.length by omega))
  have c2 := hs _ (List.getElem_mem (show k + 1 < l.length by omega))
  have mk := a4 k (by omega) (by omega)
  rw [hk] at hend
  unfold most at a3 m2 mk
  unfold cut
  have hcl := left_all false l (cutTo false l (l.length - 1)).1
  constructor
  · by_cases e : (cutTo false l (l.length - 1)).1 = 1
    · rw [e] at a3
      omega
    · omega
  · by_cases e : (cutTo false l (l.length - 1)).1 = k + 1
    · rw [e] at a3
      omega
    · omega
end Nd
namespace Tr
theorem rising_app {a b : List En} (h : Rising (a ++ b)) : Rising a ∧ Rising b ∧ ∀ x ∈ a, ∀ y ∈ b, Nd.lt x.cell.key y.cell.key = true := by
  unfold Rising at h
  rw [List.pairwise_append] at h
  exact h
theorem flatMap_app {α β : Type} (f : α → List β) (a b : List α) : (a ++ b).flatMap f = a.flatMap f ++ b.flatMap f := by simp
/-- Cells that are cut. -/
theorem Part.cut {σ : Book} {d : Nat} {cs : List Ce} {P : List Nat} {L : List En} (h : Part σ d cs P L) (j : Nat) (h1 : 1 ≤ j) (h2 : j < cs.length) :
    ∃ P1 P2 L1 L2, P = P1 ++ P2 ∧ L = L1 ++ L2 ∧ Part σ d (cs.take j) P1 L1 ∧ Part σ d (Nd.first (d == 0) ⟨#[]⟩ (cs.drop j)) P2 L2 ∧ L1 ≠ [] ∧ L2 ≠ [] ∧ (∀ e ∈ L1, Nd.lt e.cell.key cs[j].key = true) ∧ (∀ e ∈ L2, Nd.lt e.cell.key cs[j].key = false) ∧ cs[j].key.size ≤ 120 := by
  have hr := h.right
  cases d with
  | zero =>
    obtain ⟨g1, g2, g3, g4⟩ := h
    have hl : cs.length = L.length := by rw [g1, List.length_map]
    have e : L = L.take j ++ L.drop j := (List.take_append_drop j L).symm
    rw [e] at g3
    obtain ⟨r1, r2, r3⟩ := rising_app g3
    have hk : cs[j] = (L[j]'(by omega)).cell := by simp [g1]
    have hd : L.drop j = L[j]'(by omega) :: L.drop (j + 1) := List.drop_eq_getElem_cons (by omega)
    refine ⟨(L.take j).flatMap (·.pages), (L.drop j).flatMap (·.pages), L.take j, L.drop j, by rw [g2, ← flatMap_app, List.take_append_drop], e, ⟨by rw [g1, List.map_take], rfl, r1, fun x hx => g4 x (List.mem_of_mem_take hx)⟩, ⟨?_, rfl, r2, fun x hx => g4 x (List.mem_of_mem_drop hx)⟩, ?_, ?_, ?_, ?_, ?_⟩
    · show cs.drop j = _
      rw [g1, List.map_drop]
    · intro hn
      have := congrArg List.length hn
      rw [List.length_take, List.length_nil] at this
      omega
    · rw [hd]; exact List.cons_ne_nil _ _
    · intro x hx
      rw [hk]
      exact r3 x hx _ (by rw [hd]; exact List.mem_cons.2 (.inl rfl))
    · intro x hx
      rw [hk]
      rw [hd] at hx r2
      rcases List.mem_cons.1 hx with rfl | hx
      · exact Nd.lt_irrefl _
      · exact le_of_lt ((List.pairwise_cons.1 r2).1 x hx)
    · have := hr.2 cs[j] (List.getElem_mem h2)
      unfold Nd.rightOne Nd.rightLeaf at this
      simp at this
      omega
  | succ d =>
    obtain ⟨ks, g1, g2, g3, ⟨k, t, g4, g4'⟩, g5, g6⟩ := h
    have hl : cs.length = ks.length := by rw [g1, List.length_map]
    have e : ks = ks.take j ++ ks.drop j := (List.take_append_drop j ks).symm
    obtain ⟨k2, hk2⟩ : ∃ x, x = ks[j]'(by omega) := ⟨_, rfl⟩
    have hd : ks.drop j = k2 :: ks.drop (j + 1) := by rw [hk2]; exact List.drop_eq_getElem_cons (by omega)
    have hk : cs[j] = k2.cell := by rw [hk2]; simp [g1]
    have hne : ∀ x ∈ ks, x.L ≠ [] := fun x hx => by
      obtain ⟨-, _, _, _, _, _, _, _, _, g, -⟩ := g6 x hx
      exact g
    have hin : k2 ∈ ks := by rw [hk2]; exact List.getElem_mem (by omega)
    rw [e, List.map_append, sep_app, hd, List.map_cons, sep_cons] at g5
    obtain ⟨s1, ⟨⟨s2, s3⟩, s4⟩, s5⟩ := g5
    refine ⟨(ks.take j).flatMap (·.P), (ks.drop j).flatMap (·.P), (ks.take j).flatMap (·.L), (ks.drop j).flatMap (·.L), by rw [g2, ← flatMap_app, List.take_append_drop], by rw [g3, ← flatMap_app, List.take_append_drop],
      ⟨ks.take j, by rw [g1, List.map_take], rfl, rfl, ?_, s1, fun x hx => g6 x (List.mem_of_mem_take hx)⟩, ⟨{ k2 with key := ⟨#[]⟩ } :: ks.drop (j + 1), ?_, ?_, ?_, ⟨_, _, rfl, rfl⟩, ?_, ?_⟩, ?_, ?_, ?_, ?_, ?_⟩
    · obtain ⟨m, rfl⟩ : ∃ m, j = m + 1 := ⟨j - 1, by omega⟩
      exact ⟨k, t.take m, by rw [g4, List.take_succ_cons], g4'⟩
    · show Nd.first false ⟨#[]⟩ (cs.drop j) = _
      rw [g1, ← List.map_drop, hd]
      rfl
    · rw [hd]; rfl
    · rw [hd]; rfl
    · rw [List.map_cons, sep_cons]
      exact ⟨⟨s2, fun x hx => le_nil _⟩, s4⟩
    · intro x hx
      rcases List.mem_cons.1 hx with rfl | hx
      · exact ⟨by show (0 : Nat) ≤ 120; omega, (g6 k2 hin).2⟩
      · exact g6 x (List.mem_of_mem_drop hx)
    · obtain ⟨m, rfl⟩ : ∃ m, j = m + 1 := ⟨j - 1, by omega⟩
      rw [g4, List.take_succ_cons, List.flatMap_cons]
      have := hne k (by rw [g4]; simp)
      simp [this]
    · rw [hd, List.flatMap_cons]
      have := hne k2 hin
      simp [this]
    · intro x hx
      rw [hk]
      obtain ⟨y, hy, hx⟩ := List.mem_flatMap.1 hx
      exact s5 y.rg (List.mem_map_of_mem hy) k2.rg (by simp) x hx
    · intro x hx
      rw [hk]
      rw [hd, List.flatMap_cons] at hx
      rcases List.mem_append.1 hx with hx | hx
      · exact s3 x hx
      · obtain ⟨y, hy, hx⟩ := List.mem_flatMap.1 hx
        obtain ⟨z, t2, hz⟩ := List.exists_cons_of_ne_nil (hne k2 hin)
        have hz : z ∈ k2.L := by rw [hz]; simp
        have q1 := s3 z hz
        have q2 := s2 y.rg (List.mem_map_of_mem hy) z hz
        have q3 := s4.2 y.rg (List.mem_map_of_mem hy) x hx
        exact le_of_lt (lt_le (le_lt q1 q2) q3)
    · rw [hk]; exact (g6 k2 hin).1
/-- Cells of two neighbours. -/
theorem Part.join {σ : Book} {d : Nat} {a b : List Ce} {Pa Pb : List Nat} {La Lb : List En} {key : ByteArray} (ha : Part σ d a Pa La) (hb : Part σ d b Pb Lb) (h1 : ∀ e ∈ La, Nd.lt e.cell.key key = true) (h2 : ∀ e ∈ Lb, Nd.lt e.cell.key key = false) (hk : key.size ≤ 120) :
    Part σ d (a ++ Nd.first (d == 0) key b) (Pa ++ Pb) (La ++ Lb) := by
  cases d with
  | zero =>
    obtain ⟨a1, a2, a3, a4⟩ := ha
    obtain ⟨b1, b2, b3, b4⟩ := hb
    refine ⟨?_, by rw [a2, b2, flatMap_app], List.pairwise_append.2 ⟨a3, b3, fun x hx y hy => lt_le (h1 x hx) (h2 y hy)⟩, fun e he => by rcases List.mem_append.1 he with he | he; exact a4 e he; exact b4 e he⟩
    show a ++ b = _
    rw [a1, b1, List.map_append]
  | succ d =>
    obtain ⟨ks, a1, a2, a3, ⟨k, t, a4, a4'⟩, a5, a6⟩ := ha
    obtain ⟨js, b1, b2, b3, ⟨j, u, b4, b4'⟩, b5, b6⟩ := hb
    subst b4
    obtain ⟨z, t2, hz⟩ := List.exists_cons_of_ne_nil (show j.L ≠ [] by
      obtain ⟨-, _, _, _, _, _, _, _, _, g, -⟩ := b6 j (by simp)
      exact g)
    have hz : z ∈ j.L := by rw [hz]; simp
    rw [List.map_cons, sep_cons] at b5
    have hLb : ∀ x ∈ j.L, x ∈ Lb := fun x hx => by rw [b3]; exact List.mem_flatMap.2 ⟨j, by simp, hx⟩
    have hLa : ∀ x ∈ ks, ∀ e ∈ x.L, e ∈ La := fun x hx e he => by rw [a3]; exact List.mem_flatMap.2 ⟨x, hx, he⟩
    refine ⟨ks ++ { j with key := key } :: u, ?_, ?_, ?_, ⟨k, t ++ { j with key := key } :: u, by rw [a4]; rfl, a4'⟩, ?_, ?_⟩
    · show a ++ Nd.first false key b = _
      rw [a1, b1]
      simp only [List.map_append, List.map_cons]
      rfl
    · rw [a2, b2, flatMap_app, List.flatMap_cons, List.flatMap_cons]
    · rw [a3, b3, flatMap_app, List.flatMap_cons, List.flatMap_cons]
    · rw [List.map_append, List.map_cons, sep_app, sep_cons]
      refine ⟨a5, ⟨⟨b5.1.1, fun e he => h2 e (hLb e he)⟩, b5.2⟩, ?_⟩
      intro x hx y hy e he
      obtain ⟨x', hx', rfl⟩ := List.mem_map.1 hx
      have q1 := h1 e (hLa x' hx' e he)
      rcases List.mem_cons.1 hy with rfl | hy
      · exact q1
      · exact Nd.lt_trans (lt_le q1 (h2 z (hLb z hz))) (b5.1.1 y hy z hz)
    · intro x hx
      rcases List.mem_append.1 hx with hx | hx
      · exact a6 x hx
      · rcases List.mem_cons.1 hx with rfl | hx
        · exact ⟨hk, (b6 j (by simp)).2⟩
        · exact b6 x (by simp [hx])
/-- Parts that are to be nodes: each one's key, its cells, the pages below, the entries. -/
structure Pd where
  key : ByteArray
  cs : List Ce
  P : List Nat
  L : List En
def Pd.pt (leaf : Bool) (x : Pd) : Pt := ⟨x.key, leaf, x.cs⟩
def Pd.rg (x : Pd) : ByteArray × List En := (x.key, x.L)
def Good (leaf : Bool) (cs : List Ce) (L : List En) : Prop := L ≠ [] ∧ (leaf = false → 2 ≤ cs.length)
/-- Parts in a node's place: they stand from a key on. -/
structure Parts (σ : Book) (d : Nat) (key : ByteArray) (ps : List Pt) (P : List Nat) (L : List En) (xs : List Pd) : Prop where
  pts : ps = xs.map (Pd.pt (d == 0))
  pages : P = xs.flatMap (·.P)
  ents : L = xs.flatMap (·.L)
  head : ∃ x t, xs = x :: t ∧ x.key = key
  sep : Sep (xs.map Pd.rg)
  each : ∀ x ∈ xs, x.key.size ≤ 120 ∧ Nd.sum (d == 0) x.cs ≤ 488 ∧ Part σ d x.cs x.P x.L
  count : xs.length = 1 ∨ (xs.length = 2 ∧ ∀ x ∈ xs, Good (d == 0) x.cs x.L)
/-- Cells as parts. -/
def partsL (key : ByteArray) (leaf : Bool) (cs : List Ce) : List Pt :=
  if Nd.sum leaf cs ≤ 488 then [⟨key, leaf, cs⟩] else [⟨key, leaf, cs.take (Nd.cut leaf cs)⟩, ⟨(cs.getD (Nd.cut leaf cs) Ce.zero).key, leaf, Nd.first leaf ⟨#[]⟩ (cs.drop (Nd.cut leaf cs))⟩]
theorem Part.sizes {σ : Book} {d : Nat} {cs : List Ce} {P : List Nat} {L : List En} (h : Part σ d cs P L) : ∀ c ∈ cs, 8 ≤ Nd.size (d == 0) c ∧ Nd.size (d == 0) c ≤ 223 := fun c hc => Nd.size_le (h.right.2 c hc)
theorem Part.branch_sizes {σ : Book} {d : Nat} {cs : List Ce} {P : List Nat} {L : List En} (h : Part σ (d + 1) cs P L) : (∀ c ∈ cs, Nd.size false c ≤ 128) ∧ ∀ h : 0 < cs.length, Nd.size false cs[0] = 8 := by
  obtain ⟨ks, g1, g2, g3, ⟨k, t, g4, g4'⟩, g5, g6⟩ := h
  subst g1
  refine ⟨fun c hc => ?_, fun h => ?_⟩
  · obtain ⟨x, hx, rfl⟩ := List.mem_map.1 hc
    have := (g6 x hx).1
    simp [Nd.size, Kd.cell]
    omega
  · subst g4
    simp [Nd.size, Kd.cell, g4']
    rfl
theorem Part.parts {σ : Book} {d : Nat} {cs : List Ce} {P : List Nat} {L : List En} (h : Part σ d cs P L) (key : ByteArray) (hk : ∀ e ∈ L, Nd.lt e.cell.key key = false) (hks : key.size ≤ 120) (hs : Nd.sum (d == 0) cs ≤ 750) :
    ∃ xs, Parts σ d key (partsL key (d == 0) cs) P L xs := by
  unfold partsL
  by_cases hf : Nd.sum (d == 0) cs ≤ 488
  · rw [if_pos hf]
    exact ⟨[⟨key, cs, P, L⟩], rfl, by simp, by simp, ⟨_, _, rfl, rfl⟩, ⟨by simp, fun x hx => by
      have : x = (key, L) := by simpa [Pd.rg] using hx
      subst this
      exact hk⟩, fun x hx => by
      obtain rfl := List.mem_singleton.1 hx
      exact ⟨hks, hf, h⟩, .inl rfl⟩
  · rw [if_neg hf]
    obtain ⟨c1, c2, c3, c4⟩ := Nd.cut_fits (d == 0) cs 223 (fun c hc => (h.sizes c hc).2) (Nat.le_refl _) (by omega) hs
    obtain ⟨P1, P2, L1, L2, p1, p2, p3, p4, p5, p6, p7, p8, p9⟩ := h.cut (Nd.cut (d == 0) cs) c1 (by omega)
    have hg : cs.getD (Nd.cut (d == 0) cs) Ce.zero = cs[Nd.cut (d == 0) cs]'(by omega) := by simp [List.getD, List.getElem?_eq_getElem (show Nd.cut (d == 0) cs < cs.length by omega)]
    rw [hg]
    have htw : (d == 0) = false → 2 ≤ (cs.take (Nd.cut (d == 0) cs)).length ∧ 2 ≤ (Nd.first (d == 0) ⟨#[]⟩ (cs.drop (Nd.cut (d == 0) cs))).length := by
      intro hd
      cases d with
      | zero => cases hd
      | succ d =>
        obtain ⟨s1, s2⟩ := h.branch_sizes
        have hz : (d + 1 == 0) = false := rfl
        rw [hz] at hf c2 ⊢
        have := Nd.cut_two cs s1 s2 (fun c hc => by have := (h.sizes c hc).1; rwa [hz] at this) (by omega)
        rw [Nd.first_len, List.length_take, List.length_drop]
        omega
    refine ⟨[⟨key, _, P1, L1⟩, ⟨_, _, P2, L2⟩], rfl, by simp [p1], by simp [p2], ⟨_, _, rfl, rfl⟩, ?_, ?_, .inr ⟨rfl, ?_⟩⟩
    · show Sep ((key, L1) :: [((cs[Nd.cut (d == 0) cs]'(by omega)).key, L2)])
      rw [sep_cons]
      refine ⟨⟨fun b hb => ?_, fun e he => hk e (by rw [p2]; simp [he])⟩, by simp, fun x hx => ?_⟩
      · obtain rfl := List.mem_singleton.1 hb
        exact p7
      · obtain rfl := List.mem_singleton.1 hx
        exact p8
    · intro x hx
      rcases List.mem_cons.1 hx with rfl | hx
      · exact ⟨hks, c3, p3⟩
      · obtain rfl := List.mem_singleton.1 hx
        exact ⟨p9, Nat.le_trans (Nd.sum_first_nil _ _) c4, p4⟩
    · intro x hx
      rcases List.mem_cons.1 hx with rfl | hx
      · exact ⟨p5, fun hd => (htw hd).1⟩
      · obtain rfl := List.mem_singleton.1 hx
        exact ⟨p6, fun hd => (htw hd).2⟩
end Tr
end Go.Proofs.Ytllafbcnikoohaa
/- A tree in pages, plain: what becomes of the pages; kids that are replaced; a change of a leaf. -/
namespace Go.Proofs.Ytllafbcnikoohaa
open Go.RowKit
set_option linter.unusedVariables false
set_option linter.unusedSimpArgs false
namespace Tr
def upd (σ : Book) (n : Nat) (x : Option Pgg) : Book := fun m => if m = n then x else σ m
theorem upd_same (σ : Book) (n : Nat) (x : Option Pgg) : upd σ n x n = x := by simp [upd]
theorem upd_ne (σ : Book) {n m : Nat} (x : Option Pgg) (h : m ≠ n) : upd σ n x m = σ m := by simp [upd, h]
/-- Of the pages Q became the pages P'; all others are as they were. -/
structure Moved (σ : Book) (Q : List Nat) (σ' : Book) (P' : List Nat) : Prop where
  keep : ∀ n, n ∉ Q → σ n ≠ none → σ' n = σ n
  new : ∀ n ∈ P', n ∈ Q ∨ σ n = none
  dom : ∀ n, σ' n ≠ none → n ∈ P' ∨ (n ∉ Q ∧ σ n ≠ none)
  there : ∀ n ∈ P', σ' n ≠ none
  nodup : P'.Nodup
theorem Moved.refl {σ : Book} {Q : List Nat} (h : ∀ n ∈ Q, σ n ≠ none) (hn : Q.Nodup) : Moved σ Q σ Q :=
  ⟨fun _ _ _ => rfl, fun n h => .inl h, fun n h => by
    by_cases hq : n ∈ Q
    · exact .inl hq
    · exact .inr ⟨hq, h⟩, h, hn⟩
theorem Moved.drop (σ : Book) (n : Nat) : Moved σ [n] (upd σ n none) [] :=
  ⟨fun m hm _ => upd_ne _ _ (by simpa using hm), fun m hm => by simp at hm, fun m hm => by
    by_cases e : m = n
    · subst e; rw [upd_same] at hm; exact absurd rfl hm
    · rw [upd_ne _ _ e] at hm; exact .inr ⟨by simpa using e, hm⟩, fun m hm => by simp at hm, List.nodup_nil⟩
theorem Moved.make {σ : Book} {n : Nat} (h : σ n = none) (x : Pgg) : Moved σ [] (upd σ n (some x)) [n] :=
  ⟨fun m _ hm => upd_ne _ _ (by rintro rfl; exact hm h), fun m hm => by rw [List.mem_singleton] at hm; subst hm; exact .inr h, fun m hm => by
    by_cases e : m = n
    · exact .inl (by simp [e])
    · rw [upd_ne _ _ e] at hm; exact .inr ⟨by simp, hm⟩, fun m hm => by rw [List.mem_singleton] at hm; subst hm; rw [upd_same]; simp, by simp⟩
theorem Moved.trans {σ σ1 σ2 : Book} {Q P1 P2 : List Nat} (h : Moved σ Q σ1 P1) (k : Moved σ1 P1 σ2 P2) : Moved σ Q σ2 P2 := by
  refine ⟨fun n hn hs => ?_, fun n hn => ?_, fun n hn => ?_, k.there, k.nodup⟩
  · have h1 := h.keep n hn hs
    rw [k.keep n (fun hp => (h.new n hp).elim hn hs) (by rw [h1]; exact hs), h1]
  · rcases k.new n hn with h1 | h1
    · exact h.new n h1
    · by_cases hq : n ∈ Q
      · exact .inl hq
      · by_cases hs : σ n = none
        · exact .inr hs
        · exact absurd ((h.keep n hq hs).symm.trans h1) hs
  · rcases k.dom n hn with h1 | ⟨h1, h2⟩
    · exact .inl h1
    · rcases h.dom n h2 with h3 | h3
      · exact absurd h3 h1
      · exact .inr h3
theorem Moved.frame {σ σ' : Book} {Q P' : List Nat} (h : Moved σ Q σ' P') {R : List Nat} (hR : ∀ n ∈ R, σ n ≠ none) (hn : R.Nodup) (hd : ∀ n ∈ R, n ∉ Q) : Moved σ (Q ++ R) σ' (P' ++ R) := by
  refine ⟨fun n hq hs => h.keep n (fun hh => hq (by simp [hh])) hs, fun n hp => ?_, fun n hs => ?_, fun n hp => ?_, ?_⟩
  · rcases List.mem_append.1 hp with hp | hp
    · exact (h.new n hp).imp (fun hh => by simp [hh]) id
    · exact .inl (by simp [hp])
  · rcases h.dom n hs with h1 | ⟨h1, h2⟩
    · exact .inl (by simp [h1])
    · by_cases hr : n ∈ R
      · exact .inl (by simp [hr])
      · exact .inr ⟨by simp [h1, hr], h2⟩
  · rcases List.mem_append.1 hp with hp | hp
    · exact h.there n hp
    · rw [h.keep n (hd n hp) (hR n hp)]; exact hR n hp
  · refine List.nodup_append.2 ⟨h.nodup, hn, fun a ha b hb e => ?_⟩
    subst e
    exact (h.new a ha).elim (hd a hb) (hR a hb)
theorem Moved.perm {σ σ' : Book} {Q Q' P P' : List Nat} (h : Moved σ Q σ' P) (hq : Q.Perm Q') (hp : P.Perm P') : Moved σ Q' σ' P' :=
  ⟨fun n hn hs => h.keep n (fun hh => hn (hq.mem_iff.1 hh)) hs, fun n hn => (h.new n (hp.mem_iff.2 hn)).imp hq.mem_iff.1 id, fun n hn => (h.dom n hn).imp hp.mem_iff.1 (fun ⟨a, b⟩ => ⟨fun hh => a (hq.mem_iff.2 hh), b⟩), fun n hn => h.there n (hp.mem_iff.2 hn), hp.nodup_iff.1 h.nodup⟩
/-- What stood outside of the pages is as it was. -/
theorem Moved.same {σ σ' : Book} {Q P' R : List Nat} (h : Moved σ Q σ' P') (hR : ∀ n ∈ R, σ n ≠ none) (hd : ∀ n ∈ R, n ∉ Q) : ∀ n ∈ R, σ' n = σ n := fun n hn => h.keep n (hd n hn) (hR n hn)
/-- A part that is made. -/
theorem Part.make {σ : Book} {d n : Nat} {cs : List Ce} {P : List Nat} {L : List En} (h : Part σ d cs P L) (h1 : 1 ≤ n) (h2 : n < 512) (hn : σ n = none) (hs : Nd.sum (d == 0) cs ≤ 488) (hg : Good (d == 0) cs L) :
    Stored (upd σ n (some ⟨if (d == 0) then 1 else 2, Nd.str (d == 0) cs⟩)) d n (n :: P) L :=
  ⟨cs, P, rfl, h1, h2, upd_same _ _ _, h.congr (fun m hm => upd_ne _ _ (by rintro rfl; exact (h.mem m hm).2.2 hn)), hs, hg.1, hg.2⟩
/-- A change of a leaf's entries at a key. -/
structure IsChange (key : ByteArray) (f : List En → List En) : Prop where
  loc : ∀ A l C, (∀ e ∈ A, Nd.lt e.cell.key key = true) → (∀ e ∈ C, Nd.lt key e.cell.key = true) → f (A ++ l ++ C) = A ++ f l ++ C
  mem : ∀ l, ∀ e ∈ f l, e ∈ l ∨ e.cell.key = key
  rise : ∀ l, Rising l → Rising (f l)
  grow : ∀ l, Nd.sum true ((f l).map (·.cell)) ≤ Nd.sum true (l.map (·.cell)) + 223
/-- Kids in the place of others. -/
theorem kids_replaced {σ σ' : Book} {d : Nat} {A M C mids : List Kd} {m0 : Kd} {t0 : List Kd} (h1 : ∃ k t, A ++ M ++ C = k :: t ∧ k.key = ⟨#[]⟩) (h2 : Sep ((A ++ M ++ C).map Kd.rg)) (h3 : ∀ k ∈ A ++ M ++ C, k.key.size ≤ 120 ∧ Stored σ d k.no k.P k.L)
    (hM : M = m0 :: t0) {n0 : Kd} {t1 : List Kd} (hm : mids = n0 :: t1) (hk : n0.key = m0.key) (hs : Sep (mids.map Kd.rg)) (hst : ∀ k ∈ mids, k.key.size ≤ 120 ∧ Stored σ' d k.no k.P k.L) (hkeep : ∀ k ∈ A ++ C, ∀ n ∈ k.P, σ' n = σ n)
    (hup : ∀ x ∈ mids, ∀ e ∈ x.L, ∀ c ∈ C, Nd.lt e.cell.key c.key = true) :
    Part σ' (d + 1) ((A ++ mids ++ C).map Kd.cell) ((A ++ mids ++ C).flatMap (·.P)) ((A ++ mids ++ C).flatMap (·.L)) := by
  subst hM hm
  have hne : ∀ {x : Kd} {τ : Book}, Stored τ d x.no x.P x.L → x.L ≠ [] := fun h => by obtain ⟨_, _, _, _, _, _, _, _, g, -⟩ := h; exact g
  obtain ⟨z, t2, hz⟩ := List.exists_cons_of_ne_nil (hne (hst n0 (by simp)).2)
  have hz : z ∈ n0.L := by rw [hz]; simp
  rw [List.map_append, List.map_append, sep_app, sep_app] at h2
  obtain ⟨⟨sA, sM, sAM⟩, sC, sMC⟩ := h2
  refine ⟨A ++ (n0 :: t1) ++ C, rfl, rfl, rfl, ?_, ?_, ?_⟩
  · obtain ⟨k, t, e1, e2⟩ := h1
    cases A with
    | nil =>
      simp only [List.nil_append, List.cons_append, List.cons.injEq] at e1
      exact ⟨n0, t1 ++ C, by simp, by rw [hk, e1.1, e2]⟩
    | cons a A =>
      simp only [List.cons_append, List.cons.injEq] at e1
      exact ⟨a, A ++ (n0 :: t1) ++ C, by simp, by rw [e1.1, e2]⟩
  · rw [List.map_append, List.map_append, sep_app, sep_app]
    refine ⟨⟨sA, hs, ?_⟩, sC, ?_⟩
    · intro x hx y hy e he
      have q1 := sAM x hx m0.rg (by simp) e he
      have q1 : Nd.lt e.cell.key n0.key = true := by rw [hk]; exact q1
      rw [List.map_cons] at hy hs
      rcases List.mem_cons.1 hy with rfl | hy
      · exact q1
      · rw [sep_cons] at hs
        exact Nd.lt_trans (lt_le q1 (hs.1.2 z hz)) (hs.1.1 y hy z hz)
    · intro x hx y hy e he
      rcases List.mem_append.1 hx with hx | hx
      · exact sMC x (List.mem_append.2 (.inl hx)) y hy e he
      · obtain ⟨x', hx', rfl⟩ := List.mem_map.1 hx
        obtain ⟨y', hy', rfl⟩ := List.mem_map.1 hy
        exact hup x' hx' e he y' hy'
  · intro k hk2
    rcases List.mem_append.1 hk2 with hk2 | hk2
    · rcases List.mem_append.1 hk2 with hk2 | hk2
      · exact ⟨(h3 k (by simp [hk2])).1, (h3 k (by simp [hk2])).2.congr (hkeep k (by simp [hk2]))⟩
      · exact hst k hk2
    · exact ⟨(h3 k (by simp [hk2])).1, (h3 k (by simp [hk2])).2.congr (hkeep k (by simp [hk2]))⟩
theorem size_kid (k : Kd) : Nd.size false k.cell = 8 + k.key.size := by simp [Nd.size, Kd.cell]; omega
/-- Two kids at most in the place of others: how many bytes. -/
theorem kids_sum {A M C mids : List Kd} {m0 : Kd} {t0 : List Kd} (hM : M = m0 :: t0) {n0 : Kd} {t1 : List Kd} (hm : mids = n0 :: t1) (hk : n0.key = m0.key) (hl : t1.length ≤ 1) (hs : ∀ k ∈ mids, k.key.size ≤ 120) :
    Nd.sum false ((A ++ mids ++ C).map Kd.cell) ≤ Nd.sum false ((A ++ M ++ C).map Kd.cell) + 128 := by
  subst hM hm
  simp only [Nd.sum, List.map_append, List.sum_append, List.map_cons, List.sum_cons, size_kid, hk]
  cases t1 with
  | nil => simp; omega
  | cons x t =>
    have : t = [] := by cases t; rfl; simp at hl
    subst this
    have := hs x (by simp)
    simp [size_kid]
    omega
theorem nodup_lt : ∀ (N : Nat) (l : List Nat), l.Nodup → (∀ n ∈ l, n < N) → l.length ≤ N
  | 0, l, _, h => by
    cases l with
    | nil => simp
    | cons a l => have := h a (by simp); omega
  | N + 1, l, hn, h => by
    have h1 := nodup_lt N (l.erase N) (hn.erase N) fun n hm => by
      have h2 := h n (List.mem_of_mem_erase hm)
      have h3 : n ≠ N := by rintro rfl; exact (List.Nodup.not_mem_erase hn) hm
      omega
    have h2 := List.length_erase (a := N) (l := l)
    split at h2 <;> omega
/-- Pages are fewer than 512. -/
theorem nodup_len {P : List Nat} (hn : P.Nodup) (h : ∀ n ∈ P, 1 ≤ n ∧ n < 512) : P.length ≤ 511 := by
  have h1 := nodup_lt 512 (0 :: P) (List.nodup_cons.2 ⟨fun h0 => by have := h 0 h0; omega, hn⟩) fun n hm => by
    rcases List.mem_cons.1 hm with rfl | hm
    · omega
    · exact (h n hm).2
  rw [List.length_cons] at h1
  omega
theorem flat_len : ∀ (ks : List Kd) (m : Nat), (∀ k ∈ ks, m ≤ k.P.length) → ks.length * m ≤ (ks.flatMap (·.P)).length
  | [], m, _ => by simp
  | k :: ks, m, h => by
    have h1 := h k (by simp)
    have h2 := flat_len ks m fun x hx => h x (by simp [hx])
    rw [List.flatMap_cons, List.length_append, List.length_cons, Nat.succ_mul]
    omega
theorem Stored.deep {σ : Book} : ∀ {d no : Nat} {P : List Nat} {L : List En}, Stored σ d no P L → 2 ^ d ≤ P.length
  | 0, no, P, L, h => by
    obtain ⟨cs, P', rfl, -⟩ := h
    simp
  | d + 1, no, P, L, h => by
    obtain ⟨cs, P', rfl, g1, g2, g3, ⟨ks, a1, a2, a3, a4, a5, a6⟩, g5, g6, g7⟩ := h
    have h1 : ∀ k ∈ ks, 2 ^ d ≤ k.P.length := fun k hk => Stored.deep (a6 k hk).2
    have h2 := flat_len ks (2 ^ d) h1
    have h3 := g7 rfl
    rw [a1, List.length_map] at h3
    rw [List.length_cons, a2]
    have h4 : 2 * 2 ^ d ≤ ks.length * 2 ^ d := Nat.mul_le_mul_right _ h3
    have h5 : 2 ^ (d + 1) = 2 ^ d * 2 := Nat.pow_succ ..
    omega
theorem Stored.low {σ : Book} {d no : Nat} {P : List Nat} {L : List En} (h : Stored σ d no P L) (hn : P.Nodup) : d ≤ 8 := by
  have h1 := h.deep
  have h2 := nodup_len hn fun n hm => ⟨(h.mem n hm).1, (h.mem n hm).2.1⟩
  by_cases hd : d ≤ 8
  · exact hd
  · have : 2 ^ 9 ≤ 2 ^ d := Nat.pow_le_pow_right (by omega) (by omega)
    omega
end Tr
end Go.Proofs.Ytllafbcnikoohaa
/- A tree in pages, plain: parts that are made, one by one. -/
namespace Go.Proofs.Ytllafbcnikoohaa
open Go.RowKit
set_option linter.unusedVariables false
set_option linter.unusedSimpArgs false
namespace Tr
def Pd.kid (x : Pd) (n : Nat) : Kd := ⟨x.key, n, n :: x.P, x.L⟩
theorem take_flat {α β : Type} (f : α → List β) (l : List α) (j : Nat) (h : j < l.length) : (l.take (j + 1)).flatMap f = (l.take j).flatMap f ++ f l[j] := by
  rw [List.take_succ_eq_append_getElem h, flatMap_app]; simp
theorem flat_nodup_take {α : Type} (f : α → List Nat) (l : List α) (j : Nat) (h : j < l.length) (hn : (l.flatMap f).Nodup) : (f l[j]).Nodup ∧ ∀ n ∈ f l[j], n ∉ (l.take j).flatMap f := by
  have e : l.flatMap f = (l.take (j + 1)).flatMap f ++ (l.drop (j + 1)).flatMap f := by rw [← flatMap_app, List.take_append_drop]
  rw [e, take_flat f l j h] at hn
  have h1 := (List.nodup_append.1 hn).1
  obtain ⟨h2, h3, h4⟩ := List.nodup_append.1 h1
  exact ⟨h3, fun n hx hy => h4 n hy n hx rfl⟩
theorem made_step {σ σj : Book} {d j n : Nat} {xs : List Pd} {ks : List Kd} (hN : (xs.flatMap (·.P)).Nodup) (hall : ∀ x ∈ xs, Part σ d x.cs x.P x.L ∧ Nd.sum (d == 0) x.cs ≤ 488 ∧ Good (d == 0) x.cs x.L) (hj : j < xs.length)
    (hks : ks.map Kd.rg = (xs.take j).map Pd.rg) (hst : ∀ k ∈ ks, Stored σj d k.no k.P k.L) (hmv : Moved σ ((xs.take j).flatMap (·.P)) σj (ks.flatMap (·.P))) (h1 : 1 ≤ n) (h2 : n < 512) (hn : σj n = none) :
    (ks ++ [xs[j].kid n]).map Kd.rg = (xs.take (j + 1)).map Pd.rg ∧ (∀ k ∈ ks ++ [xs[j].kid n], Stored (upd σj n (some ⟨if (d == 0) then 1 else 2, Nd.str (d == 0) xs[j].cs⟩)) d k.no k.P k.L) ∧
      Moved σ ((xs.take (j + 1)).flatMap (·.P)) (upd σj n (some ⟨if (d == 0) then 1 else 2, Nd.str (d == 0) xs[j].cs⟩)) ((ks ++ [xs[j].kid n]).flatMap (·.P)) := by
  obtain ⟨p1, p2, p3⟩ := hall _ (List.getElem_mem hj)
  obtain ⟨q1, q2⟩ := flat_nodup_take (·.P) xs j hj hN
  have hmem := fun m hm => (p1.mem m hm).2.2
  have hkeep := hmv.same hmem q2
  have p1' := p1.congr hkeep
  refine ⟨?_, ?_, ?_⟩
  · rw [List.map_append, hks, List.take_succ_eq_append_getElem hj, List.map_append]
    rfl
  · intro k hk
    rcases List.mem_append.1 hk with hk1 | hk1
    · exact (hst k hk1).congr fun m hm => upd_ne _ _ (fun e => ((hst k hk1).mem m hm).2.2 (by rw [e]; exact hn))
    · obtain rfl := List.mem_singleton.1 hk1
      exact p1'.make h1 h2 hn p2 p3
  · have f1 := hmv.frame hmem q1 q2
    have f2 := (Moved.make hn ⟨if (d == 0) then 1 else 2, Nd.str (d == 0) xs[j].cs⟩).frame (R := ks.flatMap (·.P) ++ xs[j].P) f1.there f1.nodup (fun m hm => by simp)
    rw [take_flat _ _ _ hj]
    refine f1.trans (f2.perm (by simp) ?_)
    rw [flatMap_app]
    simp only [List.flatMap_cons, List.flatMap_nil, List.append_nil, Pd.kid]
    rw [List.singleton_append]
    exact List.perm_middle.symm
end Tr
end Go.Proofs.Ytllafbcnikoohaa
/- Where a tree's pages are had: what is asked of them; tree.raw, tree.load. -/
namespace Go.Proofs.Ytllafbcnikoohaa
open Go.RowKit
set_option maxRecDepth 100000
set_option linter.unusedVariables false
set_option linter.unusedSimpArgs false
/-- A footprint that has grown by new blocks alone. -/
def Fresh (w : World) (S S' : List Nat) : Prop := ∀ b ∈ S', b ∈ S ∨ w.heap.size ≤ b
theorem Fresh.refl (w : World) (S : List Nat) : Fresh w S S := fun _ h => .inl h
theorem Fresh.trans {w w' : World} {S S' S'' : List Nat} (h : Fresh w S S') (k : Fresh w' S' S'') (hs : w.heap.size ≤ w'.heap.size) : Fresh w S S'' := fun b hb => by
  rcases k b hb with hb | hb
  · exact h b hb
  · exact .inr (Nat.le_trans hs hb)
theorem Fresh.mono {w w' : World} {S S' : List Nat} (h : Fresh w' S S') (hs : w.heap.size ≤ w'.heap.size) : Fresh w S S' := (Fresh.refl w S).trans h hs
/-- Pages: an interface's value, what it is in memory, may it be full. -/
structure Store where
  T : TypeId
  v : Value
  At : World → List Nat → Book → Nat → Prop
  F : Prop
/-- Blocks from B on that are not the pages' own. -/
def Cl (B : Nat) (S : List Nat) (b : Nat) : Prop := B ≤ b ∧ b ∉ S
/-- What a step on pages leaves: they are as told, and nothing else has turned. -/
def Step (p : Store) (S : List Nat) (w w' : World) (σ' : Book) (k' : Nat) : Prop := ∃ S', p.At w' S' σ' k' ∧ Off S w w' ∧ Fresh w S S'
/-- No room. -/
def Full (p : Store) (S : List Nat) (w w' : World) (e : Ending) (v : Ending) : Prop := p.F ∧ e = v ∧ ∃ σ', Step p S w w' σ' 0
structure Serves (p : Store) : Prop where
  off : ∀ {w w' : World} {S U : List Nat} {σ : Book} {k : Nat}, p.At w S σ k → Off U w w' → (∀ b ∈ S, b ∉ U) → p.At w' S σ k
  old : ∀ {w : World} {S : List Nat} {σ : Book} {k : Nat}, p.At w S σ k → ∀ b ∈ S, b < w.heap.size
  less : ∀ {w : World} {S : List Nat} {σ : Book} {k k' : Nat}, p.At w S σ k → k' ≤ k → p.At w S σ k'
  load : ∃ (f : Nat) (r : Value), (∀ W, Sem.run Try.prog (nilAhead 262 p.T p.v "Load") W = .ok (some false) W) ∧ (∀ W, Sem.run Try.prog (method 262 p.T p.v "Load") W = .ok (f, r) W) ∧ (∀ args W, Sem.run Try.prog (callFunc f args) W = .ok (.enter f args) W) ∧
    ∀ (w : World) (S : List Nat) (σ : Book) (k : Nat) (no : Nat) (x : Pgg), p.At w S σ k → σ no = some x → Calls Try.prog f #[r, .int .i64 no] w (fun e w' => Below w.heap.size w w' ∧ ∃ a b : Int, e = .returned (.tuple #[.agg #[.int .i64 x.kind, .int .i64 a, .int .i64 b, .string x.body], .int .i64 0]))
  drop : ∃ (f : Nat) (r : Value), (∀ W, Sem.run Try.prog (nilAhead 262 p.T p.v "Drop") W = .ok (some false) W) ∧ (∀ W, Sem.run Try.prog (method 262 p.T p.v "Drop") W = .ok (f, r) W) ∧ (∀ args W, Sem.run Try.prog (callFunc f args) W = .ok (.enter f args) W) ∧
    ∀ (w : World) (S : List Nat) (σ : Book) (k : Nat) (no : Nat), p.At w S σ k → σ no ≠ none → Calls Try.prog f #[r, .int .i64 no] w (fun e w' => e = .returned (.int .i64 0) ∧ Step p S w w' (Tr.upd σ no none) k)
  make : ∃ (f : Nat) (r : Value), (∀ W, Sem.run Try.prog (nilAhead 262 p.T p.v "Make") W = .ok (some false) W) ∧ (∀ W, Sem.run Try.prog (method 262 p.T p.v "Make") W = .ok (f, r) W) ∧ (∀ args W, Sem.run Try.prog (callFunc f args) W = .ok (.enter f args) W) ∧
    ∀ (w : World) (S : List Nat) (σ : Book) (k : Nat) (x : Pgg), p.At w S σ k → (p.F ∨ 1 ≤ k) → 1 ≤ x.kind → x.kind ≤ 3 → x.body.size ≤ 488 → Calls Try.prog f #[r, .int .i64 x.kind, .string x.body] w (fun e w' =>
      (∃ n : Nat, e = .returned (.tuple #[.int .i64 n, .int .i64 0]) ∧ 1 ≤ n ∧ n < 512 ∧ σ n = none ∧ Step p S w w' (Tr.upd σ n (some x)) (k - 1)) ∨ Full p S w w' e (.returned (.tuple #[.int .i64 0, .int .i64 9])))
theorem Serves.below {p : Store} (hp : Serves p) {w w' : World} {S : List Nat} {σ : Book} {k : Nat} (h : p.At w S σ k) (hb : Below w.heap.size w w') : p.At w' S σ k := hp.off h (Off.of_below hb []) (fun _ _ => List.not_mem_nil)
/-- Cells of one's own behind a step on pages. -/
theorem CRow.carry {w w' : World} {B : Nat} {S S' : List Nat} {r : Rw} {l : List Ce} (h : CRow w (Cl B S) r l) (ho : Off S w w') (hf : Fresh w S S') : CRow w' (Cl B S') r l :=
  h.keep ho.size (fun b hb hlt => ho.block b hlt hb.2) (fun b hb hlt => ⟨hb.1, fun hs => by rcases hf b hs with h1 | h1; exact hb.2 h1; omega⟩)
theorem COwn.off {w w' : World} {B : Nat} {S : List Nat} {v : Value} {l : List Ce} (h : COwn w B v l) (ho : Off S w w') (hS : ∀ b ∈ S, b < B) : COwn w' B v l :=
  Off.own ho h fun g hg hs => by have := (World.ownsRow.lt h g hg).1; have := hS g hs; omega
theorem COwn.mono {w : World} {B B' : Nat} {v : Value} {l : List Ce} (h : COwn w B v l) (hB : B' ≤ B) : COwn w B' v l := own_mono h hB
/-- The row as it may be read, apart from the pages' blocks. -/
theorem COwn.apart {w : World} {B : Nat} {S : List Nat} {A : Option Addr} {n c : Nat} {l : List Ce} (h : COwn w B (.slice A n c) l) (hS : ∀ b ∈ S, b < B) : CRow w (Cl B S) ⟨A, n, c⟩ l := by
  obtain ⟨r, hr, hc⟩ := h.row
  obtain ⟨rA, rn, rc⟩ := r
  simp only at hr
  injection hr with e1 e2 e3
  subst e1 e2 e3
  exact RowOf.keep ceAt_stable hc (Nat.le_refl _) (fun _ _ _ => rfl) fun b hb _ => ⟨hb, fun hs => by have := hS b hs; omega⟩
set_option maxHeartbeats 8000000 in
theorem raw_ok {p : Store} (hp : Serves p) {w : World} {S : List Nat} {σ : Book} {k : Nat} (h : p.At w S σ k) (no : Nat) (leaf : Bool) (s : ByteArray) (hσ : σ no = some ⟨if leaf then 1 else 2, s⟩) :
    Calls Try.prog 70 #[.iface p.T p.v, .int .i64 no] w (fun e w' => e = .returned (.tuple #[.bool leaf, .string s, .int .i64 0]) ∧ Below w.heap.size w w') := by
  obtain ⟨f, r, -, hm, he, hl⟩ := hp.load
  have HL := Lib.hid (hl w S σ k no _ h hσ)
  clear hl h hσ hp
  cases leaf
  all_goals
    go_enter Try.func70, Try.ntmps70
    go_wp2_with fail
    refine HL.out.mono ?_
    rintro e w1 ⟨hb1, a, b, rfl⟩
    have HN1 := Lib.hid hb1
    clear hb1
    go_wp2_with fail
    go_quiet (fail)
    go_wp2_with fail
    go_ret3
    exact ⟨rfl, below_drewN (HN1.out.alloc HN1.out.size _) _⟩
end Go.Proofs.Ytllafbcnikoohaa
/- Contracts: tree.load; parts as they lie; tree.parts. -/
namespace Go.Proofs.Ytllafbcnikoohaa
open Go.RowKit
set_option maxRecDepth 100000
set_option linter.unusedVariables false
set_option linter.unusedSimpArgs false
/-- A node's cells are told. -/
def TellsLd (leaf : Bool) (l : List Ce) (w : World) (e : Ending) (w' : World) : Prop := Below w.heap.size w w' ∧ ∃ (A : Option Addr) (c : Nat), e = .returned (.tuple #[.bool leaf, .slice A l.length c, .int .i64 0]) ∧ COwn w' w.heap.size (.slice A l.length c) l
set_option maxHeartbeats 8000000 in
theorem load_ok {p : Store} (hp : Serves p) {w : World} {S : List Nat} {σ : Book} {k : Nat} (h : p.At w S σ k) (no : Nat) (leaf : Bool) (l : List Ce) (hr : Nd.right leaf l = true) (hs : Nd.sum leaf l ≤ 488) (hσ : σ no = some ⟨if leaf then 1 else 2, Nd.str leaf l⟩) :
    Calls Try.prog 59 #[.iface p.T p.v, .int .i64 no] w (TellsLd leaf l w) := by
  have HR := Lib.hid (raw_ok hp h no leaf _ hσ)
  have HD := Lib.hid fun (W : World) => decode_ok leaf l W hr hs
  obtain ⟨s, hs9⟩ : ∃ s, s = Nd.str leaf l := ⟨_, rfl⟩
  rw [← hs9] at HR HD
  clear hσ hs9 hp h hr hs
  go_enter Try.func59, Try.ntmps59
  go_wp2_with (first
    | (go_at_call 70; go_must (refine HR.out.mono ?_); rintro e w1 ⟨rfl, hb1⟩; have HN1 := Lib.hid hb1; clear hb1)
    | (go_at_call 64; go_must (refine (HD.out _).mono ?_); rintro e w2 ⟨hb2, A, c, rfl, hown⟩; have HN2 := Lib.hid (HN1.out.trans (hb2.mono HN1.out.size)); have HO2 := Lib.hid (COwn.mono hown HN1.out.size); clear hb2 hown)
    | fail)
  go_ret3
  exact ⟨HN2.out, A, c, rfl, HO2.out⟩
/-- A part as it lies. -/
def PtAt (w : World) (S : Nat → Prop) (x : Pt) (vs : List Value) : Prop := ∃ r : Rw, vs = [.string x.key, .bool x.leaf, .slice r.A r.n r.c] ∧ CRow w S r x.cells
theorem ptAt_stable : Stable PtAt := fun hs hk hT d c h => by
  obtain ⟨r, h1, h2⟩ := h
  exact ⟨r, h1, h2.keep hs hk hT⟩
/-- Parts as they lie. -/
def PRow (w : World) (S : Nat → Prop) (r : Rw) (l : List Pt) : Prop := RowOf 3 PtAt w S r l
theorem PRow.keep {w w' : World} {S T : Nat → Prop} {r : Rw} {l : List Pt} (h : PRow w S r l) (hs : w.heap.size ≤ w'.heap.size) (hk : ∀ b, S b → b < w.heap.size → w'.heap[b]? = w.heap[b]?) (hT : ∀ b, S b → b < w.heap.size → T b) : PRow w' T r l :=
  RowOf.keep ptAt_stable h hs hk hT
theorem PRow.below {w w' : World} {S : Nat → Prop} {r : Rw} {l : List Pt} (h : PRow w S r l) (hb : Below w.heap.size w w') : PRow w' S r l :=
  h.keep hb.size (fun b _ hlt => hb.block b hlt) (fun _ h _ => h)
theorem PRow.carry {w w' : World} {B : Nat} {S S' : List Nat} {r : Rw} {l : List Pt} (h : PRow w (Cl B S) r l) (ho : Off S w w') (hf : Fresh w S S') : PRow w' (Cl B S') r l :=
  h.keep ho.size (fun b hb hlt => ho.block b hlt hb.2) (fun b hb hlt => ⟨hb.1, fun hs => by rcases hf b hs with h1 | h1; exact hb.2 h1; omega⟩)
theorem PRow.at {w : World} {S : Nat → Prop} {r : Rw} {l : List Pt} (h : PRow w S r l) (i : Nat) (hi : i < l.length) : ∃ b o, r.A = some ⟨b, o, none⟩ ∧ (S b ∧ b < w.heap.size) ∧ ∃ q : Rw, w.cell? ⟨b, o + i * 3, none⟩ = some (.string l[i].key) ∧
    w.cell? ⟨b, o + i * 3 + 1, none⟩ = some (.bool l[i].leaf) ∧ w.cell? ⟨b, o + i * 3 + 2, none⟩ = some (.slice q.A q.n q.c) ∧ CRow w S q l[i].cells := by
  obtain ⟨h1, h2, h3, h4⟩ := h
  obtain ⟨b, o, c, q1, q2, q3, q4, q5⟩ := h4 i l[i] (List.getElem?_eq_getElem hi)
  obtain ⟨q, rfl, hq⟩ := q5
  exact ⟨b, o, q1, q2, q, q4 0 _ rfl, q4 1 _ rfl, q4 2 _ rfl, hq⟩
/-- One part in a block of its own. -/
theorem PRow.lit {w : World} {S : Nat → Prop} {blk : Nat} {x : Pt} {q : Rw} (h : Bk w blk 121 #[.string x.key, .bool x.leaf, .slice q.A q.n q.c]) (hS : S blk) (hq : CRow w S q x.cells) : PRow w S ⟨some ⟨blk, 0, none⟩, 1, 1⟩ [x] := by
  refine ⟨rfl, Nat.le_refl _, by unfold maxLen; show 1 ≤ _; omega, fun i d hd => ?_⟩
  have hi : i < 1 := (List.getElem?_eq_some_iff.1 hd).1
  obtain rfl : i = 0 := by omega
  obtain rfl : x = d := by simpa using hd
  refine ⟨blk, 0, [.string x.key, .bool x.leaf, .slice q.A q.n q.c], rfl, ⟨hS, h.lt⟩, rfl, fun j u hu => ?_, q, rfl, hq⟩
  have e : (0 + 0 * 3 + j) = j := by omega
  rw [e, h.cell j, ← Array.getElem?_toList]
  exact hu
end Go.Proofs.Ytllafbcnikoohaa
/- Contract: tree.parts. -/
namespace Go.Proofs.Ytllafbcnikoohaa
open Go.RowKit
set_option maxRecDepth 100000
set_option linter.unusedVariables false
set_option linter.unusedSimpArgs false
/-- One part is told. -/
def TellsP1 (key : ByteArray) (leaf : Bool) (r : Rw) (w : World) (e : Ending) (w' : World) : Prop := Below w.heap.size w w' ∧ ∃ g : Nat, w.heap.size ≤ g ∧ e = .returned (.slice (some ⟨g, 0, none⟩) 1 1) ∧ Bk w' g 121 #[.string key, .bool leaf, .slice r.A r.n r.c]
/-- Parts are told. -/
def TellsPs (B : Nat) (S : List Nat) (ps : List Pt) (w : World) (e : Ending) (w' : World) : Prop := Below w.heap.size w w' ∧ ∃ r : Rw, e = .returned (.slice r.A r.n r.c) ∧ PRow w' (Cl B S) r ps
theorem sum_grow (leaf : Bool) (l : List Ce) (j : Nat) (h : j < l.length) : ((l.take (j + 1)).map (Nd.size leaf)).sum = ((l.take j).map (Nd.size leaf)).sum + Nd.size leaf l[j] := by
  rw [List.take_succ_eq_append_getElem h, List.map_append, List.sum_append]; simp
set_option maxHeartbeats 8000000 in
theorem parts_one (key : ByteArray) (leaf : Bool) (r : Rw) (l : List Ce) (S : Nat → Prop) (w : World) (h : CRow w S r l) (hr : ∀ c ∈ l, Nd.rightOne leaf c = true) (hs : Nd.sum leaf l ≤ 488) :
    Calls Try.prog 49 #[.string key, .bool leaf, .slice r.A r.n r.c] w (TellsP1 key leaf r w) := by
  obtain ⟨A, n, cap⟩ := r
  have hr0 := h
  obtain ⟨h1, h2, h3, -⟩ := hr0
  simp only at h1 h2 h3 ⊢
  subst h1
  have hll : l.length ≤ 10000 := by have := Nd.sum_ge leaf l; omega
  obtain ⟨T, hT⟩ : ∃ T, T = Nd.sum leaf l := ⟨_, rfl⟩
  have HT := Lib.hid hT
  have hTb : T ≤ 488 := by omega
  have HL := Lib.hid hr
  have HR := Lib.hid h
  have hcm : cap ≤ 9223372036854775807 := by unfold maxLen at h3; omega
  have zT : decide ((T : Int) ≤ 488) = true := decide_eq_true (by omega)
  clear h h3 hr hs hT
  go_enter Try.func49, Try.ntmps49
  go_wp2_with fail
  go_loopw [7, 15] (fun u i wr => ∃ (j y : Nat), i = .int .i64 j ∧ u = .int .i64 y ∧ j ≤ l.length ∧ y ≤ 2 + 223 * j ∧ Hid (y = 2 + ((l.take j).map (Nd.size leaf)).sum) ∧ Below w.heap.size w wr) (fun _ i _ => l.length - (intOf i).toNat)
  case atStart => exact ⟨0, 2, rfl, rfl, Nat.zero_le _, by omega, Lib.hid (by simp), Below.refl _ _⟩
  case round =>
    obtain ⟨j, y, rfl, rfl, hj, hy, HY, hbw⟩ := hrel
    have HBW := Lib.hid hbw
    by_cases hlt : j < l.length
    · have z1 : decide ((j : Int) < (l.length : Int)) = true := decide_eq_true (by omega)
      obtain ⟨b, o, hA, hS, q0, q1, q2, q3, q4⟩ := (HR.out.below hbw).at j hlt
      simp only at hA
      subst hA
      have hbl := hS.2
      have hone := HL.out _ (List.getElem_mem hlt)
      have hsz := (Nd.size_le hone).2
      have HC := Lib.hid fun (W : World) => tbytes_any leaf l[j] W hone
      have HTT := Lib.hid (sum_grow leaf l j hlt)
      obtain ⟨z, hz⟩ : ∃ z, z = Nd.size leaf l[j] := ⟨_, rfl⟩
      rw [← hz] at HC HTT hsz
      obtain ⟨x, hx⟩ : ∃ x, x = l[j] := ⟨_, rfl⟩
      rw [← hx] at HC q0 q1 q2 q3 q4
      clear hS hone hz hx hbw
      go_wp2_with (first
        | (go_at_call 56; go_must (refine (HC.out _).mono ?_); rintro e w2 ⟨rfl, hb2⟩; have HB2 := Lib.hid (HBW.out.trans ((five_after hb2).2.2.2.2.2.2.1.mono HBW.out.size)); clear hb2)
        | fail)
      go_roundw
      case rel => first | exact ⟨j + 1, y + z, by go_num, by go_num, by omega, by omega, Lib.hid (by rw [HTT.out, HY.out]; omega), HB2.out⟩ | ((repeat apply Exists.intro); exact ⟨⟨j + 1, y + z, by go_num, by go_num, by omega, by omega, Lib.hid (by rw [HTT.out, HY.out]; omega), HB2.out⟩, rfl⟩)
      case measure => simp [intOf]; omega
    · have z1 : decide ((j : Int) < (l.length : Int)) = false := decide_eq_false (by omega)
      obtain rfl : j = l.length := by omega
      have hyT : y = T := by rw [HY.out, HT.out, List.take_of_length_le (Nat.le_refl _)]; rfl
      subst hyT
      clear hbw HY hy
      go_wp2_with fail
      go_ret
      have hb2 : Below w.heap.size w (wr.alloc (.cells #[.string key, .bool leaf, .slice A l.length cap] 121)) := HBW.out.alloc HBW.out.size _
      have hsz := HBW.out.size
      have hk := Bk.new wr 121 #[.string key, .bool leaf, .slice A l.length cap]
      exact ⟨hb2, wr.heap.size, hsz, rfl, hk⟩
theorem CRow.drop {w : World} {S : Nat → Prop} {b o n cap : Nat} {l : List Ce} (h : CRow w S ⟨some ⟨b, o, none⟩, n, cap⟩ l) (c : Nat) (hc : c ≤ l.length) : CRow w S ⟨some ⟨b, o + c * 5, none⟩, n - c, cap - c⟩ (l.drop c) := by
  obtain ⟨h1, h2, h3, h4⟩ := h
  simp only at h1 h2 h3
  refine ⟨by show n - c = _; rw [List.length_drop, h1], by show n - c ≤ cap - c; omega, by show cap - c ≤ maxLen; omega, fun i d hd => ?_⟩
  rw [List.getElem?_drop] at hd
  obtain ⟨b', o', x, q1, q2, q3, q4, q5⟩ := h4 (c + i) d hd
  simp only [Option.some.injEq, Addr.mk.injEq, and_true] at q1
  obtain ⟨rfl, rfl⟩ := q1
  refine ⟨b, o + c * 5, x, rfl, q2, q3, fun j u hu => ?_, q5⟩
  have := q4 j u hu
  rwa [show o + (c + i) * 5 + j = o + c * 5 + i * 5 + j by omega] at this
theorem CRow.take {w : World} {S : Nat → Prop} {A : Option Addr} {n cap : Nat} {l : List Ce} (h : CRow w S ⟨A, n, cap⟩ l) (c : Nat) (hc : c ≤ l.length) : CRow w S ⟨A, c, cap⟩ (l.take c) := by
  obtain ⟨h1, h2, h3, h4⟩ := h
  simp only at h1 h2 h3
  refine ⟨by show c = _; rw [List.length_take]; omega, by show c ≤ cap; omega, h3, fun i d hd => ?_⟩
  have hi : i < (l.take c).length := (List.getElem?_eq_some_iff.1 hd).1
  rw [List.length_take] at hi
  rw [List.getElem?_take, if_pos (by omega)] at hd
  exact h4 i d hd
theorem COwn.full {w : World} {B : Nat} {A : Option Addr} {n c : Nat} {l : List Ce} (h : COwn w B (.slice A n c) l) (h0 : 0 < l.length) : ∃ g, A = some ⟨g, 0, none⟩ ∧ B ≤ g ∧ g < w.heap.size ∧ n = l.length ∧ n ≤ c ∧ c ≤ maxLen := by
  rcases h.2 with ⟨-, h2⟩ | ⟨g, cap, cur, h1, h2, h3, h4, h5, -⟩
  · omega
  · injection h1 with e1 e2 e3
    subst e1 e2 e3
    exact ⟨g, rfl, h2, lt_of_block h3, rfl, h4, h5⟩
/-- A row whose first key is another one. -/
theorem COwn.rekey {w : World} {B g c n : Nat} {l : List Ce} (h : COwn w B (.slice (some ⟨g, 0, none⟩) n c) l) (h0 : 0 < l.length) (key : ByteArray) : COwn (w.setCell ⟨g, 0, none⟩ (.string key)) B (.slice (some ⟨g, 0, none⟩) n c) (Nd.first false key l) := by
  obtain ⟨g', e1, -, -, hn, -⟩ := h.full h0
  subst hn
  have h1 := (World.ownsRow.stored h 0 (.string key)).1
  unfold COwn
  cases l with
  | nil => simp at h0
  | cons x t =>
    have e : (flatC (x :: t)).set 0 (.string key) = flatC (Nd.first false key (x :: t)) := by
      rw [show x :: t = [x] ++ t from rfl, flatC_app, flatC_one]
      show _ = flatC ([{ x with key := key }] ++ t)
      rw [flatC_app, flatC_one]
      rfl
    rw [e] at h1
    rw [Nd.first_len]
    exact h1
theorem COwn.key0 {w : World} {B g c n : Nat} {l : List Ce} (h : COwn w B (.slice (some ⟨g, 0, none⟩) n c) l) (h0 : 0 < l.length) : w.cell? ⟨g, 0, none⟩ = some (.string (l[0]'h0).key) ∧ w.frozen? ⟨g, 0, none⟩ = false := by
  obtain ⟨g', e1, -, -, hn, -⟩ := h.full h0
  subst hn
  refine ⟨?_, World.ownsRow.frozenAt h 0⟩
  obtain ⟨⟨rA, rn, rc⟩, hr, hc⟩ := h.row
  simp only at hr
  injection hr with e1 e2 e3
  subst e1 e2 e3
  obtain ⟨b, o, hA, -, q0, -⟩ := hc.at 0 h0
  injection hA with hA
  injection hA with e1 e2
  subst e1 e2
  exact q0
/-- A row of one's own as a row that is read. -/
theorem row_of_own {α : Type} {k : Nat} {At : World → (Nat → Prop) → α → List Value → Prop} {w : World} {B E : Nat} {T : Nat → Prop} {v : Value} {ds : List α} {css : List (List Value)} (h3 : w.ownsRow B E k v ds.length css.flatten) (h1 : css.length = ds.length) (h2 : ∀ c ∈ css, c.length = k)
    (h4 : ∀ (i : Nat) (d : α) (c : List Value), ds[i]? = some d → css[i]? = some c → At w T d c) (hT : ∀ b, B ≤ b → b < w.heap.size → T b) : ∃ r : Rw, v = .slice r.A r.n r.c ∧ RowOf k At w T r ds := by
  obtain ⟨hl, hr⟩ := h3
  rcases hr with ⟨rfl, hn⟩ | ⟨g, cap, cur, rfl, hb, hh, hc, hm, hcs, htk⟩
  · obtain rfl : ds = [] := List.eq_nil_of_length_eq_zero hn
    exact ⟨Rw.none, rfl, RowOf.nil _ _⟩
  · refine ⟨⟨some ⟨g, 0, none⟩, ds.length, cap⟩, rfl, rfl, by show ds.length ≤ cap; omega, hm, fun i d hd => ?_⟩
    have hi : i < ds.length := (List.getElem?_eq_some_iff.1 hd).1
    obtain ⟨c, hci⟩ : ∃ c, css[i]? = some c := ⟨css[i]'(by omega), List.getElem?_eq_getElem (by omega)⟩
    have hck := h2 c (List.mem_of_getElem? hci)
    refine ⟨g, 0, c, rfl, ⟨hT g hb (lt_of_block hh), lt_of_block hh⟩, hck, fun j u hu => ?_, h4 i d c hd hci⟩
    have hj : j < k := by rw [← hck]; exact (List.getElem?_eq_some_iff.1 hu).1
    rw [cell_of_row w g _ cur _ (0, 0) hh, Nat.zero_add]
    have hf := flatten_get css h2 i c hci j hj
    rw [hu] at hf
    have hlt : i * k + j < css.flatten.length := (List.getElem?_eq_some_iff.1 hf).1
    rw [← htk, List.getElem?_take_of_lt (by omega)] at hf
    rw [← Array.getElem?_toList]
    exact hf
theorem CRow.sub {w : World} {S T : Nat → Prop} {r : Rw} {l : List Ce} (h : CRow w S r l) (hT : ∀ b, S b → b < w.heap.size → T b) : CRow w T r l := h.keep (Nat.le_refl _) (fun _ _ _ => rfl) hT
theorem COwn.as {w : World} {B : Nat} {A : Option Addr} {n c : Nat} {l : List Ce} (h : COwn w B (.slice A n c) l) : CRow w (fun b => B ≤ b) ⟨A, n, c⟩ l := by
  obtain ⟨⟨rA, rn, rc⟩, hr, hc⟩ := h.row
  simp only at hr
  injection hr with e1 e2 e3
  subst e1 e2 e3
  exact hc
def ptVals (x : Pt) (r : Rw) : List Value := [.string x.key, .bool x.leaf, .slice r.A r.n r.c]
theorem info_part : (Try.prog.info? 121).map (fun i => (i.zero, i.size, i.bytes)) = some (some (.agg #[.string ByteArray.empty, .bool false, .slice none 0 0]), 3, 48) := by kernel_rfl
/-- A block of one part as a row. -/
theorem own_part {w : World} {g : Nat} {vs : List Value} (h : Bk w g 121 vs.toArray) (hl : vs.length = 3) {B : Nat} (hB : B ≤ g) : w.ownsRow B 121 3 (.slice (some ⟨g, 0, none⟩) 1 1) 1 vs :=
  ⟨by rw [hl], .inr ⟨g, 1, vs.toArray, rfl, hB, h, Nat.le_refl _, by unfold maxLen; omega, by simp [hl], by simp [List.take_of_length_le, hl]⟩⟩
end Go.Proofs.Ytllafbcnikoohaa
/- Contract: tree.parts, whatever the cells are. -/
namespace Go.Proofs.Ytllafbcnikoohaa
open Go.RowKit
set_option maxRecDepth 100000
set_option linter.unusedVariables false
set_option linter.unusedSimpArgs false
theorem prow_two {w : World} {B : Nat} {T : Nat → Prop} {v : Value} {x y : Pt} {r q : Rw} (h : w.ownsRow B 121 3 v 2 ([.string x.key, .bool x.leaf, .slice r.A r.n r.c] ++ [.string y.key, .bool y.leaf, .slice q.A q.n q.c])) (hr : CRow w T r x.cells) (hq : CRow w T q y.cells) (hT : ∀ b, B ≤ b → b < w.heap.size → T b) :
    ∃ r : Rw, v = .slice r.A r.n r.c ∧ PRow w T r [x, y] :=
  row_of_own (α := Pt) (k := 3) (At := PtAt) (T := T) (ds := [x, y]) (css := [[.string x.key, .bool x.leaf, .slice r.A r.n r.c], [.string y.key, .bool y.leaf, .slice q.A q.n q.c]]) h rfl (fun c hc => by
    rcases List.mem_cons.1 hc with rfl | hc
    · rfl
    · obtain rfl := List.mem_singleton.1 hc; rfl) (fun i d c hd hc => by
    match i with
    | 0 =>
      simp only [List.getElem?_cons_zero, Option.some.injEq] at hd hc
      subst hd hc
      exact ⟨r, rfl, hr⟩
    | 1 =>
      simp only [List.getElem?_cons_succ, List.getElem?_cons_zero, Option.some.injEq] at hd hc
      subst hd hc
      exact ⟨q, rfl, hq⟩
    | i + 2 => simp at hd) hT
set_option maxHeartbeats 8000000 in
theorem parts_two (key : ByteArray) (leaf : Bool) (b o n cap : Nat) (l : List Ce) (B : Nat) (S : List Nat) (w : World) (h : CRow w (Cl B S) ⟨some ⟨b, o, none⟩, n, cap⟩ l) (hS : ∀ b ∈ S, b < w.heap.size) (hB : B ≤ w.heap.size) (hr : ∀ c ∈ l, Nd.rightOne leaf c = true) (hs : 488 < Nd.sum leaf l) (hs2 : Nd.sum leaf l ≤ 750) :
    Calls Try.prog 49 #[.string key, .bool leaf, .slice (some ⟨b, o, none⟩) n cap] w (TellsPs B S (Tr.partsL key leaf l) w) := by
  obtain ⟨i0, hi, iz0, iz1, iz2⟩ := info_parts info_part
  obtain ⟨c1, c2, c3, c4⟩ := Nd.cut_fits leaf l 223 (fun c hc => (Nd.size_le (hr c hc)).2) (Nat.le_refl _) hs hs2
  have hr0 := h
  obtain ⟨h1, h2, h3, -⟩ := hr0
  simp only at h1 h2 h3
  subst h1
  have hll : l.length ≤ 10000 := by have := Nd.sum_ge leaf l; omega
  have hsm : Small l := ⟨hll, fun c hc => by have := Nd.one_small (hr c hc); omega⟩
  obtain ⟨T, hT⟩ : ∃ T, T = Nd.sum leaf l := ⟨_, rfl⟩
  have HT := Lib.hid hT
  have hTb : T ≤ 750 := by omega
  have hTl : 488 < T := by omega
  have HH := Lib.hid fun (W : World) (hb : Below w.heap.size w W) => halve_ok leaf ⟨some ⟨b, o, none⟩, l.length, cap⟩ l (Cl B S) W (h.below hb) (by omega) hsm
  obtain ⟨c, hc⟩ : ∃ c, c = Nd.cut leaf l := ⟨_, rfl⟩
  have HC := Lib.hid hc
  rw [← hc] at c1 c2 c3 c4 HH
  have HL := Lib.hid hr
  have HR := Lib.hid h
  have HS := Lib.hid hS
  have hcap : c < cap := by omega
  have HD := Lib.hid fun (W : World) (hb : Below w.heap.size w W) => (show Calls Try.prog 58 #[.slice (some ⟨b, o + c * 5, none⟩) (l.length - c) (cap - c)] W (TellsR (l.drop c) W) from
    clone_any ⟨some ⟨b, o + c * 5, none⟩, l.length - c, cap - c⟩ (l.drop c) (Cl B S) W ((h.below hb).drop c (by omega)) (by rw [List.length_drop]; omega) (by rw [List.length_drop]; omega))
  have HE := Lib.hid fun (W : World) (hb : Below w.heap.size w W) => (show Calls Try.prog 58 #[.slice (some ⟨b, o, none⟩) c cap] W (TellsR (l.take c) W) from
    clone_any ⟨some ⟨b, o, none⟩, c, cap⟩ (l.take c) (Cl B S) W ((h.below hb).take c (by omega)) (by rw [List.length_take]; omega) (by rw [List.length_take]; omega))
  have hdl : (l.drop c).length = l.length - c := List.length_drop
  have htl : (l.take c).length = c := by rw [List.length_take]; omega
  obtain ⟨d, hd⟩ : ∃ d, d = l.drop c := ⟨_, rfl⟩
  obtain ⟨t, ht⟩ : ∃ t, t = l.take c := ⟨_, rfl⟩
  have D := Lib.hid hd
  have T' := Lib.hid ht
  rw [← hd] at hdl HD c4
  rw [← ht] at htl HE c3
  have hd0 : 0 < d.length := by omega
  have hd1 : d.length ≤ 10000 := by omega
  have ht0 : 0 < t.length := by omega
  have hRd := Lib.hid (show ∀ c ∈ d, Nd.rightOne leaf c = true from fun x hx => hr x (by rw [hd] at hx; exact List.mem_of_mem_drop hx))
  have hRt := Lib.hid (show ∀ c ∈ t, Nd.rightOne leaf c = true from fun x hx => hr x (by rw [ht] at hx; exact List.mem_of_mem_take hx))
  have C3 := Lib.hid c3
  have C4 := Lib.hid c4
  have TL := Lib.hid htl
  have hcm : cap ≤ 9223372036854775807 := by unfold maxLen at h3; omega
  have zT : decide ((T : Int) ≤ 488) = false := decide_eq_false (by omega)
  clear h h3 hr hs hT hS hs2 hsm c3 c4 hc hd ht hdl htl
  go_enter Try.func49, Try.ntmps49
  go_wp2_with fail
  go_loopw [7, 15] (fun u i wr => ∃ (j y : Nat), i = .int .i64 j ∧ u = .int .i64 y ∧ j ≤ l.length ∧ y ≤ 2 + 223 * j ∧ Hid (y = 2 + ((l.take j).map (Nd.size leaf)).sum) ∧ Below w.heap.size w wr) (fun _ i _ => l.length - (intOf i).toNat)
  case atStart => exact ⟨0, 2, rfl, rfl, Nat.zero_le _, by omega, Lib.hid (by simp), Below.refl _ _⟩
  case round =>
    obtain ⟨j, y, rfl, rfl, hj, hy, HY, hbw⟩ := hrel
    have HBW := Lib.hid hbw
    by_cases hlt : j < l.length
    · have z1 : decide ((j : Int) < (l.length : Int)) = true := decide_eq_true (by omega)
      obtain ⟨b', o', hA, hS, q0, q1, q2, q3, q4⟩ := (HR.out.below hbw).at j hlt
      injection hA with hA
      injection hA with e1 e2
      subst e1 e2
      have hbl := hS.2
      have hone := HL.out _ (List.getElem_mem hlt)
      have hsz := (Nd.size_le hone).2
      have HC := Lib.hid fun (W : World) => tbytes_any leaf l[j] W hone
      have HTT := Lib.hid (sum_grow leaf l j hlt)
      obtain ⟨z, hz⟩ : ∃ z, z = Nd.size leaf l[j] := ⟨_, rfl⟩
      rw [← hz] at HC HTT hsz
      obtain ⟨x, hx⟩ : ∃ x, x = l[j] := ⟨_, rfl⟩
      rw [← hx] at HC q0 q1 q2 q3 q4
      clear hS hone hz hx hbw
      go_wp2_with (first
        | (go_at_call 56; go_must (refine (HC.out _).mono ?_); rintro e w2 ⟨rfl, hb2⟩; have HB2 := Lib.hid (HBW.out.trans ((five_after hb2).2.2.2.2.2.2.1.mono HBW.out.size)); clear hb2)
        | fail)
      go_roundw
      case rel => first | exact ⟨j + 1, y + z, by go_num, by go_num, by omega, by omega, Lib.hid (by rw [HTT.out, HY.out]; omega), HB2.out⟩ | ((repeat apply Exists.intro); exact ⟨⟨j + 1, y + z, by go_num, by go_num, by omega, by omega, Lib.hid (by rw [HTT.out, HY.out]; omega), HB2.out⟩, rfl⟩)
      case measure => simp [intOf]; omega
    · have z1 : decide ((j : Int) < (l.length : Int)) = false := decide_eq_false (by omega)
      obtain rfl : j = l.length := by omega
      have hyT : y = T := by rw [HY.out, HT.out, List.take_of_length_le (Nat.le_refl _)]; rfl
      subst hyT
      clear hbw HY hy
      go_wp2_with (first
        | (go_at_call 57; go_must (refine (HH.out _ HBW.out).mono ?_); rintro e w2 ⟨rfl, hb2⟩; have HB2 := Lib.hid (HBW.out.trans (hb2.mono HBW.out.size)); clear hb2)
        | fail)
      refine (HD.out _ HB2.out).mono ?_
      rintro e w3 ⟨hb3, A3, c5, rfl, hown3⟩
      obtain ⟨g, rfl, hg1, hg2, -, hg3, hg4⟩ := hown3.full hd0
      have HB3 := Lib.hid (HB2.out.trans (hb3.mono HB2.out.size))
      have HO3 := Lib.hid (hown3.mono HB2.out.size)
      obtain ⟨hq0, hf0⟩ := hown3.key0 hd0
      obtain ⟨ky, hky⟩ : ∃ ky, ky = (d[0]'hd0).key := ⟨_, rfl⟩
      rw [← hky] at hq0
      have HKY := Lib.hid hky
      clear hb3 hown3 hky
      have hgs : w.heap.size ≤ g := Nat.le_trans HB2.out.size hg1
      have hways : ∃ wx, Below w.heap.size w wx ∧ COwn wx w.heap.size (.slice (some ⟨g, 0, none⟩) d.length c5) (Nd.first leaf ⟨#[]⟩ d) ∧ wx = (if leaf then w3 else w3.setCell ⟨g, 0, none⟩ (.string ⟨#[]⟩)) := by
        cases leaf
        · exact ⟨_, HB3.out.setCell (p := ⟨g, 0, none⟩) hgs _, HO3.out.rekey hd0 _, rfl⟩
        · exact ⟨_, HB3.out, HO3.out, rfl⟩
      obtain ⟨wx, hbx, hox, hwx⟩ := hways
      obtain ⟨d2, hd2⟩ : ∃ d2, d2 = Nd.first leaf ⟨#[]⟩ d := ⟨_, rfl⟩
      have hd2l : d2.length = d.length := by rw [hd2, Nd.first_len]
      have hs2 : Nd.sum leaf d2 ≤ 488 := by rw [hd2]; exact Nat.le_trans (Nd.sum_first_nil _ _) C4.out
      have hr2 : ∀ c ∈ d2, Nd.rightOne leaf c = true := by
        rw [hd2]
        intro x hx
        unfold Nd.first at hx
        cases leaf
        · cases hdd : d with
          | nil => rw [hdd] at hx; simp at hx
          | cons y u =>
            rw [hdd] at hx
            simp only [Bool.false_eq_true, if_false, List.mem_cons] at hx
            rcases hx with rfl | hx
            · have h9 := hRd.out y (by rw [hdd]; simp)
              simp only [Nd.rightOne, Nd.rightBranch, Bool.false_eq_true, if_false, Bool.and_eq_true, decide_eq_true_eq, beq_iff_eq] at h9 ⊢
              exact ⟨⟨⟨⟨⟨by show (0 : Nat) ≤ 120; omega, h9.1.1.1.1.2⟩, h9.1.1.1.2⟩, h9.1.1.2⟩, h9.1.2⟩, h9.2⟩
            · exact hRd.out x (by rw [hdd]; simp [hx])
        · exact hRd.out x hx
      rw [← hd2] at hox
      rw [← hd2l] at hox
      have HPL := Lib.hid (show Tr.partsL key leaf l = [⟨key, leaf, t⟩, ⟨ky, leaf, d2⟩] by
        unfold Tr.partsL
        rw [if_neg (by rw [← HT.out]; omega), ← HC.out, ← D.out, ← T'.out, ← hd2]
        have e : (l.getD c Ce.zero).key = ky := by
          have hcl : c < l.length := by omega
          rw [HKY.out, show l.getD c Ce.zero = l[c]'hcl by simp [List.getD, List.getElem?_eq_getElem hcl]]
          congr 1
          have h9 : d[0]'hd0 = (l.drop c)[0]'(by rw [List.length_drop]; omega) := by simp [D.out]
          rw [h9, List.getElem_drop]
          simp
        rw [e])
      have HD2 := Lib.hid hd2
      have HBX := Lib.hid hbx
      have HOX := Lib.hid hox
      have HWX := Lib.hid hwx
      have HR2 := Lib.hid hr2
      have HS2 := Lib.hid hs2
      have HDL := Lib.hid hd2l
      clear hd2 hbx hox hwx hr2 hs2 hd2l hg1
      cases leaf
      all_goals
        go_wp2_with fail
        have hww := HWX.out
        simp only [Bool.false_eq_true, if_false, if_true] at hww
        rw [← hww]
        clear hww
        refine (HE.out _ HBX.out).mono ?_
        rintro e w4 ⟨hb4, A4, c6, rfl, hown4⟩
        obtain ⟨g4, rfl, hg4a, hg4b, -, hg4c, hg4d⟩ := hown4.full ht0
        have HB4 := Lib.hid (HBX.out.trans (hb4.mono HBX.out.size))
        have HO4 := Lib.hid (hown4.mono HBX.out.size)
        have HX4 := Lib.hid (HOX.out.below hb4)
        clear hb4 hown4 hg4a
        have HP1 := Lib.hid (parts_one key _ ⟨some ⟨g4, 0, none⟩, t.length, c6⟩ t _ w4 HO4.out.as hRt.out C3.out)
        go_wp2_with fail
        refine HP1.out.mono ?_
        rintro e w5 ⟨hb5, g5, hg5, rfl, hk5⟩
        have HB5 := Lib.hid (HB4.out.trans (hb5.mono HB4.out.size))
        have HO5 := Lib.hid (HO4.out.below hb5)
        have HX5 := Lib.hid (HX4.out.below hb5)
        have HK5 := Lib.hid hk5
        have hg5' : w.heap.size ≤ g5 := Nat.le_trans HB4.out.size hg5
        have HP2 := Lib.hid (parts_one ky _ ⟨some ⟨g, 0, none⟩, d2.length, c5⟩ d2 _ w5 HX5.out.as HR2.out HS2.out)
        rw [HDL.out] at HP2
        clear hb5 hk5 HP1 hg5
        go_wp2_with fail
        refine HP2.out.mono ?_
        rintro e w6 ⟨hb6, g6, hg6, rfl, hk6⟩
        have HB6 := Lib.hid (HB5.out.trans (hb6.mono HB5.out.size))
        have HO6 := Lib.hid (HO5.out.below hb6)
        have HX6 := Lib.hid (HX5.out.below hb6)
        have HK6 := Lib.hid hk6
        have hg6' : w.heap.size ≤ g6 := Nat.le_trans HB5.out.size hg6
        have HG5 := Lib.hid (bk_below HK5.out hb6)
        have HQ5 := Lib.hid (own_part (bk_below HK5.out hb6) rfl hg5')
        have HN6 := Lib.hid (show ∀ (j : Nat) (u : Value), [Value.string ky, .bool _, .slice (some ⟨g, 0, none⟩) d.length c5][j]? = some u → w6.cell? ((⟨g6, 0, none⟩ : Addr).add j) = some u from fun j u hu => by
          rw [addr_add, Nat.zero_add, hk6.cell j, ← Array.getElem?_toList]; exact hu)
        clear hb6 hk6 HP2 hg6
        have hb6s := HB6.out.size
        go_wp2_with (at_builtin; refine wpList_append_own _ rfl (.tmp 54) (.tmp 58) 102 rfl w.heap.size 121 i0 _ 3 48 Try.underlying102 hi iz0 iz1 iz2 rfl (by omega) (.slice (some ⟨g5, 0, none⟩) 1 1) 1 _ rfl HQ5.out ⟨g6, 0, none⟩ 1 1 _ rfl rfl HN6.out (by simp [Value.oneCell']) (by unfold maxLen; omega) (by omega) hb6s ?_; intro v' w7 hown7 hgrow7 hiff)
        have hB7 : Below w.heap.size w w7 := ((Off.of_below HB6.out []).grown hgrow7 (fun k hk => .inr (by
          have : g5 = k := by simpa [Value.ownBlock] using hk
          omega))).below (Nat.le_refl _) (by simp)
        have hO7 : COwn w7 w.heap.size (.slice (some ⟨g4, 0, none⟩) t.length c6) t := World.ownsRow.kept HO6.out hgrow7 (.inr (own_ne HO6.out HG5.out (by decide)))
        have hX7 : COwn w7 w.heap.size (.slice (some ⟨g, 0, none⟩) d2.length c5) d2 := World.ownsRow.kept HX6.out hgrow7 (.inr (own_ne HX6.out HG5.out (by decide)))
        rw [HDL.out] at hX7
        have hT : ∀ b, w.heap.size ≤ b → b < w7.heap.size → Cl B S b := fun b h1 _ => ⟨by omega, fun hh => by have := HS.out b hh; omega⟩
        obtain ⟨⟨rA, rn, rc⟩, hrv, hpr⟩ := prow_two (x := ⟨key, _, t⟩) (y := ⟨ky, _, d2⟩) (r := ⟨some ⟨g4, 0, none⟩, t.length, c6⟩) (q := ⟨some ⟨g, 0, none⟩, d.length, c5⟩) hown7 (hO7.as.sub hT) (hX7.as.sub hT) hT
        simp only at hrv
        subst hrv
        clear hown7 hgrow7 hiff
        go_ret
        exact ⟨hB7, ⟨rA, rn, rc⟩, rfl, by rw [HPL.out]; exact hpr⟩
/-- Cells as parts: one or two. -/
theorem parts_any (key : ByteArray) (leaf : Bool) (r : Rw) (l : List Ce) (B : Nat) (S : List Nat) (w : World) (h : CRow w (Cl B S) r l) (hS : ∀ b ∈ S, b < w.heap.size) (hB : B ≤ w.heap.size) (hr : ∀ c ∈ l, Nd.rightOne leaf c = true) (hs : Nd.sum leaf l ≤ 750) :
    Calls Try.prog 49 #[.string key, .bool leaf, .slice r.A r.n r.c] w (TellsPs B S (Tr.partsL key leaf l) w) := by
  by_cases hf : Nd.sum leaf l ≤ 488
  · refine (parts_one key leaf r l (Cl B S) w h hr hf).mono ?_
    rintro e w1 ⟨hb, g, hg, rfl, hk⟩
    refine ⟨hb, ⟨some ⟨g, 0, none⟩, 1, 1⟩, rfl, ?_⟩
    unfold Tr.partsL
    rw [if_pos hf]
    exact PRow.lit hk ⟨by omega, fun hh => by have := hS g hh; omega⟩ (h.below hb)
  · have h0 : 0 < l.length := by
      cases l with
      | nil => simp [Nd.sum] at hf
      | cons c l => simp
    obtain ⟨A, n, cap⟩ := r
    obtain ⟨b, o, hA, -⟩ := h.at 0 h0
    simp only at hA
    subst hA
    exact parts_two key leaf b o n cap l B S w h hS hB hr (by omega) hs
end Go.Proofs.Ytllafbcnikoohaa
