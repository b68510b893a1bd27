/- Merged by program: Grown CurKit CurAwake. -/
import Derived.Test.YtllafbcnikoohaaC17
/- A tree that is grown out of pairs. -/
namespace Go.Proofs.Ytllafbcnikoohaa
open Go.RowKit
set_option maxRecDepth 100000
set_option linter.unusedVariables false
set_option linter.unusedSimpArgs false
/-- A slice of pairs as an argument. -/
def PairsAt (W : World) (A : Option Addr) (n : Nat) (K V : Nat → ByteArray) : Prop := ∀ i, i < n → ∃ b o, A = some ⟨b, o, none⟩ ∧ b < W.heap.size ∧ W.cell? ⟨b, o + i * 2, none⟩ = some (.string (K i)) ∧ W.cell? ⟨b, o + i * 2 + 1, none⟩ = some (.string (V i))
/-- A tree in a heap, its pairs in a row. -/
structure Grew (B : Nat) (w : World) (h : Nat) (S : List Nat) (σ : Book) (root : Nat) (P : List Nat) (L : List En) (g c : Nat) : Prop where
  heap : (heapStore h).At w S σ (freeN σ)
  root : Tr.Root σ root P L
  nodup : P.Nodup
  dom : ∀ n, σ n ≠ none → n ∈ P
  row : POwn w B (.slice (some ⟨g, 0, none⟩) L.length c) L
  few : ∀ e ∈ L, e.pages.length ≤ 1
  keys : ∀ e ∈ L, 1 ≤ e.cell.key.size ∧ e.cell.key.size ≤ 120
  base : ∀ b ∈ S, B ≤ b
  apart : g ∉ S
theorem heap_all {h : Nat} {w : World} {S : List Nat} {σ : Book} {k : Nat} (hh : (heapStore h).At w S σ k) : (heapStore h).At w S σ (freeN σ) := by
  obtain ⟨p, u, m, cs, us, e, hi, -⟩ := hh
  exact ⟨p, u, m, cs, us, e, hi, Nat.le_refl _⟩
theorem Grew.below {B : Nat} {w w' : World} {h : Nat} {S : List Nat} {σ : Book} {root : Nat} {P : List Nat} {L : List En} {g c : Nat} (hg : Grew B w h S σ root P L g c) (hb : Below w.heap.size w w') : Grew B w' h S σ root P L g c :=
  ⟨(heap_serves h).below hg.heap hb, hg.root, hg.nodup, hg.dom, hg.row.below hb, hg.few, hg.keys, hg.base, hg.apart⟩
/-- A key and a value, as data. -/
def prK (e : En) : ByteArray × List UInt8 := (e.cell.key, e.val)
/-- Pairs with one more, or another value. -/
def putK (key : ByteArray) (v : List UInt8) (ps : List (ByteArray × List UInt8)) : List (ByteArray × List UInt8) :=
  let s := ps.findIdx fun c => !Nd.lt c.1 key
  ps.take s ++ ([(key, v)] ++ ps.drop (if (match ps[s]? with | some c => c.1.toList == key.toList | none => false) = true then s + 1 else s))
/-- What the first pairs come to. -/
def feed (K V : Nat → ByteArray) : Nat → List (ByteArray × List UInt8)
  | 0 => []
  | j + 1 => if (decide ((K j).size < 1) || (decide (120 < (K j).size) || decide (400 < (V j).size))) = true then feed K V j else putK (K j) (V j).data.toList (feed K V j)
theorem putE_pr (key : ByteArray) (x : En) (L : List En) (hk : x.cell.key = key) : (Tr.putE key x L).map prK = putK key x.val (L.map prK) := by
  have hs : Tr.spotE L key = (L.map prK).findIdx fun c => !Nd.lt c.1 key := by
    unfold Tr.spotE Nd.spot
    rw [List.findIdx_map, List.findIdx_map]
    rfl
  have hh : Tr.hasE L key = (match (L.map prK)[(L.map prK).findIdx fun c => !Nd.lt c.1 key]? with | some c => c.1.toList == key.toList | none => false) := by
    unfold Tr.hasE Nd.has
    rw [show Nd.spot (L.map (·.cell)) key = (L.map prK).findIdx fun c => !Nd.lt c.1 key from hs, List.getElem?_map, List.getElem?_map]
    cases L[(L.map prK).findIdx fun c => !Nd.lt c.1 key]? <;> rfl
  unfold Tr.putE putK
  rw [hs, hh]
  simp only [List.map_append, List.map_take, List.map_drop, List.map_cons, List.map_nil]
  rw [show prK x = (key, x.val) from by unfold prK; rw [hk]]
/-- What grown tells. -/
def GrownTells (n : Nat) (K V : Nat → ByteArray) (w : World) (e : Ending) (w' : World) : Prop :=
  ∃ (h : Nat) (S : List Nat) (σ : Book) (root : Nat) (P : List Nat) (L : List En) (g c : Nat), e = .returned (.tuple #[.pointer (some ⟨h, 0, none⟩), .int .i64 root, .slice (some ⟨g, 0, none⟩) L.length c, .bool true]) ∧ Grew w.heap.size w' h S σ root P L g c ∧ L.length ≤ 100 ∧ Below w.heap.size w w' ∧ L.map prK = feed K V (min n 100)
/-- One pair more in the tree. -/
theorem Grew.put {B : Nat} {w : World} {h : Nat} {S : List Nat} {σ : Book} {root : Nat} {P : List Nat} {L : List En} {g c : Nat} (hg : Grew B w h S σ root P L g c) (hl : L.length < 100) (key val : ByteArray) (hk1 : 1 ≤ key.size) (hk2 : key.size ≤ 120) (hv : val.size ≤ 400) (hB : B ≤ w.heap.size) :
    Calls Try.prog 23 #[.iface 24 (.pointer (some ⟨h, 0, none⟩)), .int .i64 root, .string key, .string val] w (fun e w' => ∃ root' : Nat, e = .returned (.tuple #[.int .i64 root', .int .i64 0]) ∧
      Hid (∃ (x : En) (S' : List Nat) (σ' : Book) (P' : List Nat), x.cell.key = key ∧ (⟨x.val.toArray⟩ : ByteArray) = val ∧ (heapStore h).At w' S' σ' (freeN σ') ∧ Tr.Root σ' root' P' (Tr.putE key x L) ∧ P'.Nodup ∧ (∀ n, σ' n ≠ none → n ∈ P') ∧ POwn w' B (.slice (some ⟨g, 0, none⟩) L.length c) L ∧ x.pages.length ≤ 1 ∧ Off S w w' ∧ Fresh w S S')) := by
  have hf : 21 ≤ freeN σ := by
    have h1 := freeN_ge hg.dom
    have h2 := hg.root.count hg.few
    omega
  refine (put_any (heap_serves h) hg.heap root hg.root hg.nodup key val hk1 hk2 (by omega) (.inr hf)).mono ?_
  rintro e w' ⟨x, hx1, hx2, hx3, hway⟩
  rcases hway with ⟨root', P', σ', S', k', rfl, h1, h2, h3, h4, h5, h6⟩ | ⟨hF, -⟩
  · refine ⟨root', rfl, Lib.hid ⟨x, S', σ', P', hx1, by rw [hx2], heap_all h3, h1, h2.nodup, fun n hn => ?_, h5.own hg.row (fun g' hg' hm => ?_), hx3, h5, h6⟩⟩
    · rcases h2.dom n hn with h | ⟨h, h'⟩
      · exact h
      · exact absurd (hg.dom n h') h
    · have e : g = g' := by simpa [Value.ownBlock] using hg'
      subst e
      exact hg.apart hm
  · exact hF.elim
set_option maxHeartbeats 16000000 in
theorem grown_any (A : Option Addr) (n cap : Nat) (K V : Nat → ByteArray) (w : World) (ha : PairsAt w A n K V) (hn : n ≤ maxLen) :
    Calls Try.prog 9 #[.slice A n cap] w (GrownTells n K V w) := by
  have HA := Lib.hid ha
  clear ha
  go_enter Try.func9, Try.ntmps9
  go_wp2_with (first
    | (go_at_call 22; go_must (refine (newheap_any _).mono ?_); rintro e w1 ⟨h, S, rfl, hat, hb1, hSb⟩; have HAT := Lib.hid hat; have HB1 := Lib.hid hb1; have HSB := Lib.hid hSb; clear hat hb1 hSb)
    | fail)
  have hg0 : Grew w.heap.size (w1.alloc (.cells #[] 53)) h S (fun _ => none) 0 [] [] w1.heap.size 0 :=
    ⟨heap_all ((heap_serves h).off HAT.out ((Off.refl [] w1).alloc _) (by simp)), .inl ⟨rfl, rfl, rfl⟩, List.nodup_nil, fun n hn => absurd rfl hn, World.ownsRow_lit w1 #[] 0 HB1.out.size (by unfold maxLen; omega) rfl, by simp, by simp, HSB.out, fun hm => by have := (heap_serves h).old HAT.out _ hm; omega⟩
  have HG0 := Lib.hid hg0
  have HBA := Lib.hid (show Below w.heap.size w (w1.alloc (.cells #[] 53)) from HB1.out.alloc HB1.out.size _)
  clear hg0
  go_loopw [7, 8, 9] (fun rt pr i wr => Below w.heap.size w wr ∧ ∃ (j : Nat) (S' : List Nat) (σ : Book) (root : Nat) (P : List Nat) (L : List En) (g c : Nat), i = .int .i64 j ∧ rt = .int .i64 root ∧ pr = .slice (some ⟨g, 0, none⟩) L.length c ∧ j ≤ 100 ∧ L.length ≤ j ∧ Grew w.heap.size wr h S' σ root P L g c ∧ j ≤ n ∧ L.map prK = feed K V j) (fun _ _ i _ => 100 - (intOf i).toNat)
  case atStart => exact ⟨HBA.out, 0, S, _, 0, [], [], _, 0, rfl, rfl, rfl, by omega, Nat.le_refl _, HG0.out, Nat.zero_le _, rfl⟩
  case round =>
    obtain ⟨hb, j, S', σ, root, P, L, g, c, rfl, rfl, rfl, hj, hL, hg, hjn9, hfd⟩ := hrel
    have HFD := Lib.hid hfd
    clear hfd
    have HB := Lib.hid hb
    have HG := Lib.hid hg
    by_cases hjn : j < n
    case neg =>
      have z1 : decide ((j : Int) < (n : Int)) = false := decide_eq_false (by omega)
      have z2 : decide (j < n) = false := decide_eq_false hjn
      clear hb hg
      go_wp2_with fail
      exact bodyPost_ret (v := .tuple #[.pointer (some ⟨h, 0, none⟩), .int .i64 root, .slice (some ⟨g, 0, none⟩) L.length c, .bool true]) (by simp [results, Try.results9, go_sem]) rfl ⟨h, S', σ, root, P, L, g, c, rfl, HG.out, by omega, HB.out, by rw [show min n 100 = j by omega]; exact HFD.out⟩
    have z1 : decide ((j : Int) < (n : Int)) = true := decide_eq_true (by omega)
    have z2 : decide (j < n) = true := decide_eq_true hjn
    by_cases hj1 : j < 100
    case neg =>
      have z3 : decide ((j : Int) < 100) = false := decide_eq_false (by omega)
      have z4 : decide (j < 100) = false := decide_eq_false hj1
      clear hb hg
      go_wp2_with fail
      exact bodyPost_ret (v := .tuple #[.pointer (some ⟨h, 0, none⟩), .int .i64 root, .slice (some ⟨g, 0, none⟩) L.length c, .bool true]) (by simp [results, Try.results9, go_sem]) rfl ⟨h, S', σ, root, P, L, g, c, rfl, HG.out, by omega, HB.out, by rw [show min n 100 = j by omega]; exact HFD.out⟩
    have z3 : decide ((j : Int) < 100) = true := decide_eq_true (by omega)
    have z4 : decide (j < 100) = true := decide_eq_true hj1
    obtain ⟨b, o, rfl, hbl, q0, q1⟩ := HA.out j hjn
    have HKS := Lib.hid (show ∀ W, Off S' wr W → W.cell? ⟨b, o + j * 2, none⟩ = some (.string (K j)) ∧ W.cell? ⟨b, o + j * 2 + 1, none⟩ = some (.string (V j)) from fun W hW => by
      have hbw : b < wr.heap.size := Nat.lt_of_lt_of_le hbl hb.size
      have hbS : b ∉ S' := fun hm => by have := hg.base b hm; omega
      exact ⟨((hW.cell (p := ⟨b, o + j * 2, none⟩) hbw hbS).trans (World.cell?_of_block (a := ⟨b, o + j * 2, none⟩) (hb.block b hbl))).trans q0, ((hW.cell (p := ⟨b, o + j * 2 + 1, none⟩) hbw hbS).trans (World.cell?_of_block (a := ⟨b, o + j * 2 + 1, none⟩) (hb.block b hbl))).trans q1⟩)
    obtain ⟨p0, p1⟩ := HKS.out wr (Off.refl _ _)
    have hbw : b < wr.heap.size := Nat.lt_of_lt_of_le hbl hb.size
    obtain ⟨ky, hky⟩ : ∃ ky, ky = K j := ⟨_, rfl⟩
    obtain ⟨vl, hvl⟩ : ∃ vl, vl = V j := ⟨_, rfl⟩
    rw [← hky] at p0 HKS
    rw [← hvl] at p1 HKS
    have y1 : (0 : Int) ≤ (j : Int) := by omega
    have y2 : (j : Int) < (n : Int) := by omega
    have HKY := Lib.hid hky
    have HVL := Lib.hid hvl
    have HSK := Lib.hid (show (decide ((K j).size < 1) || (decide (120 < (K j).size) || decide (400 < (V j).size))) = true → L.map prK = feed K V (j + 1) from fun hs => by simp only [feed]; rw [if_pos hs]; exact HFD.out)
    clear q0 q1 hky hvl hb hg
    by_cases h1 : ky.size < 1
    · have w1 : decide ((ky.size : Int) < 1) = true := decide_eq_true (by omega)
      have w2 : decide (ky.size < 1) = true := decide_eq_true h1
      go_wp2_with fail
      go_roundw
      case rel => exact ⟨HB.out, j + 1, S', σ, root, P, L, g, c, by go_num, rfl, rfl, by omega, by omega, HG.out, by omega, HSK.out (by rw [← HKY.out]; simp [h1])⟩
      case measure => simp [intOf]; omega
    have w1' : decide ((ky.size : Int) < 1) = false := decide_eq_false (by omega)
    have w2' : decide (ky.size < 1) = false := decide_eq_false h1
    by_cases h2 : 120 < ky.size
    · have w3 : decide ((120 : Int) < (ky.size : Int)) = true := decide_eq_true (by omega)
      have w4 : decide (120 < ky.size) = true := decide_eq_true h2
      go_wp2_with fail
      go_roundw
      case rel => exact ⟨HB.out, j + 1, S', σ, root, P, L, g, c, by go_num, rfl, rfl, by omega, by omega, HG.out, by omega, HSK.out (by rw [← HKY.out]; simp [h2])⟩
      case measure => simp [intOf]; omega
    have w3' : decide ((120 : Int) < (ky.size : Int)) = false := decide_eq_false (by omega)
    have w4' : decide (120 < ky.size) = false := decide_eq_false h2
    by_cases h3 : 400 < vl.size
    · have w5 : decide ((400 : Int) < (vl.size : Int)) = true := decide_eq_true (by omega)
      have w6 : decide (400 < vl.size) = true := decide_eq_true h3
      go_wp2_with fail
      go_roundw
      case rel => exact ⟨HB.out, j + 1, S', σ, root, P, L, g, c, by go_num, rfl, rfl, by omega, by omega, HG.out, by omega, HSK.out (by rw [← HVL.out]; simp [h3])⟩
      case measure => simp [intOf]; omega
    have w5' : decide ((400 : Int) < (vl.size : Int)) = false := decide_eq_false (by omega)
    have w6' : decide (400 < vl.size) = false := decide_eq_false h3
    have HP := Lib.hid ((HG.out.below (Below.refl _ wr).drew).put (by omega) ky vl (by omega) (by omega) (by omega) HB.out.drew.size)
    have HSO := Lib.hid fun (b : Nat) (hb : b ∈ S') => (heap_serves h).old HG.out.heap b hb
    go_wp2_with fail
    go_region_held3 (fun W => W.cell? ⟨b, o + j * 2, none⟩ = some (.string ky) ∧ W.cell? ⟨b, o + j * 2 + 1, none⟩ = some (.string vl)) (first | exact HKS.out _ (Off.refl _ _).drew | exact HKS.out _ hof2.out) (first | (go_at_call 23; refine HP.out.mono ?_; rintro e w2 ⟨root', rfl, hp2⟩; have hof2 := Lib.hid (show Off S' wr w2 from by obtain ⟨_, _, _, _, _, _, _, _, _, _, _, _, h9, _⟩ := hp2.out; exact (Off.refl S' wr).drew.trans h9)))
    all_goals
      obtain ⟨x, S2, σ2, P2, hx1, hx2, e1x, e2x, e3x, e4x, e5x, e6x, e7x, e8x⟩ := hp2.out
      have hb2 : Below w.heap.size w w2 := HB.out.trans (hof2.out.below HB.out.size HG.out.base)
      have hlen := HG.out
      obtain ⟨r0, r1⟩ := HKS.out w2 hof2.out
      have hbw2 : b < w2.heap.size := Nat.lt_of_lt_of_le hbw hof2.out.size
      have hfeed : (Tr.putE ky x L).map prK = feed K V (j + 1) := by
        have hs : ¬ ((decide ((K j).size < 1) || (decide (120 < (K j).size) || decide (400 < (V j).size))) = true) := by
          rw [← HKY.out, ← HVL.out]
          simp only [Bool.or_eq_true, decide_eq_true_eq, not_or]
          exact ⟨h1, h2, h3⟩
        simp only [feed]
        rw [if_neg hs, putE_pr ky x L hx1, HFD.out, ← HKY.out, ← HVL.out, ← hx2]
      have HFE0 := Lib.hid hfeed
      clear hfeed
      subst hx1 hx2
      have HFE := Lib.hid HFE0.out
      have HPP := Lib.hid (pput_any (e5x.below (Below.refl _ w2).drew) (by omega) (fun e he => by have := HG.out.keys e he; omega) x)
      have HB2 := Lib.hid hb2
      have H1 := Lib.hid e1x
      have H2 := Lib.hid e2x
      have H3 := Lib.hid e3x
      have H4 := Lib.hid e4x
      have H6 := Lib.hid e6x
      have HF := Lib.hid (show Fresh wr S' S2 from e8x)
      have HKS2 := Lib.hid (show ∀ W, Below w2.heap.size w2 W → W.cell? ⟨b, o + j * 2, none⟩ = some (.string x.cell.key) ∧ W.cell? ⟨b, o + j * 2 + 1, none⟩ = some (.string ⟨x.val.toArray⟩) from fun W hW => ⟨(World.cell?_of_block (a := ⟨b, o + j * 2, none⟩) (hW.block b hbw2)).trans r0, (World.cell?_of_block (a := ⟨b, o + j * 2 + 1, none⟩) (hW.block b hbw2)).trans r1⟩)
      clear hp2 e1x e2x e3x e4x e5x e6x e7x e8x hb2 hlen
      go_wp2_with fail
      go_region_held3 (fun W => W.cell? ⟨b, o + j * 2, none⟩ = some (.string x.cell.key) ∧ W.cell? ⟨b, o + j * 2 + 1, none⟩ = some (.string ⟨x.val.toArray⟩)) (first | exact HKS2.out _ (Below.refl _ _).drew | exact HKS2.out _ hk3.out) (first | (go_at_call 24; refine HPP.out.mono ?_; rintro e w3 ⟨hb3, A3, c3, rfl, hown3⟩; have hk3 := Lib.hid ((Below.refl _ w2).drew.trans hb3)))
      all_goals
        have hne : (Tr.putE x.cell.key x L).length ≠ 0 := by
          have := Tr.put_ne x.cell.key x L
          intro e; exact this (List.eq_nil_of_length_eq_zero e)
        obtain ⟨_, _, hv, hA3, -⟩ := own_form hown3
        injection hv with e1 e2 e3
        subst e1
        obtain ⟨g3, rfl⟩ := hA3 hne
        have hg3 := (World.ownsRow.lt hown3 g3 rfl).1
        have hgr : Grew w.heap.size w3 h S2 σ2 root' P2 (Tr.putE x.cell.key x L) g3 c3 :=
          ⟨(heap_serves h).below H1.out hk3.out, H2.out, H3.out, H4.out, own_mono hown3 HB2.out.size, fun e he => by
            rcases Tr.putE_mem _ _ _ e he with rfl | he
            · exact H6.out
            · exact HG.out.few e he, fun e he => by
            rcases Tr.putE_mem _ _ _ e he with rfl | he
            · omega
            · exact HG.out.keys e he, fun b' hb' => by
            rcases HF.out b' hb' with h9 | h9
            · exact HG.out.base b' h9
            · exact Nat.le_trans HB.out.size h9, fun hm => by
            have := (heap_serves h).old H1.out g3 hm
            simp at hg3
            omega⟩
        have hlp : (Tr.putE x.cell.key x L).length ≤ j + 1 := Nat.le_trans (Tr.putE_len _ _ _) (by omega)
        have HGR := Lib.hid hgr
        have HB3 := Lib.hid (HB2.out.trans (hk3.out.mono HB2.out.size))
        clear hgr hA3 hne hown3 hb3
        go_wp2_with fail
        go_roundw
        case rel => exact ⟨HB3.out, j + 1, S2, σ2, root', P2, _, g3, c3, by go_num, rfl, rfl, by omega, hlp, HGR.out, by omega, HFE.out⟩
        case measure => simp [intOf]; omega
end Go.Proofs.Ytllafbcnikoohaa
/- A cursor on a grown tree: its calls, as the laws use them; the laws' awake. -/
namespace Go.Proofs.Ytllafbcnikoohaa
open Go.RowKit
set_option maxRecDepth 100000
set_option linter.unusedVariables false
set_option linter.unusedSimpArgs false
/-- What has gone on: nothing older than B, and none of R's blocks, has turned. -/
def Goes (R : List Nat) (B : Nat) (w w' : World) : Prop := Below B w w' ∧ ∀ b ∈ R, b < w.heap.size → w'.heap[b]? = w.heap[b]?
theorem Goes.refl (R : List Nat) (B : Nat) (w : World) : Goes R B w w := ⟨Below.refl _ _, fun _ _ _ => rfl⟩
theorem Goes.trans {R : List Nat} {B : Nat} {a b c : World} (h : Goes R B a b) (k : Goes R B b c) : Goes R B a c :=
  ⟨h.1.trans k.1, fun x hx hlt => (k.2 x hx (Nat.lt_of_lt_of_le hlt h.1.size)).trans (h.2 x hx hlt)⟩
theorem Goes.below {R : List Nat} {B : Nat} {w w' : World} (hb : Below w.heap.size w w') (hB : B ≤ w.heap.size) : Goes R B w w' := ⟨hb.mono hB, fun b _ hlt => hb.block b hlt⟩
theorem POwn.goes {R : List Nat} {B B' g n c : Nat} {w w' : World} {l : List En} (h : POwn w B (.slice (some ⟨g, 0, none⟩) n c) l) (hg : g ∈ R) (ho : Goes R B' w w') : POwn w' B (.slice (some ⟨g, 0, none⟩) n c) l := by
  obtain ⟨h1, h2⟩ := h
  refine ⟨h1, ?_⟩
  rcases h2 with h0 | ⟨g', cap, cur, hv, hb, hh, r⟩
  · exact .inl h0
  · have e : g = g' := by injection hv with e; injection e with e; injection e
    subst e
    exact .inr ⟨g, cap, cur, hv, hb, (ho.2 g hg (lt_of_block hh)).trans hh, r⟩
/-- A cursor, on a place; its blocks are B's or newer. -/
structure CS (h : Nat) (S : List Nat) (σ : Book) (c root : Nat) (R : List Nat) (L : List En) (B : Nat) (w : World) (U : List Nat) (o : Option Nat) : Prop where
  is : CurIs (heapStore h) S σ c root R L w U o
  base : ∀ b ∈ U, B ≤ b
  old : B ≤ w.heap.size
/-- What a call leaves. -/
def CSTo (h : Nat) (S : List Nat) (σ : Book) (c root : Nat) (R : List Nat) (L : List En) (B : Nat) (w : World) (o : Option Nat) (w' : World) : Prop := ∃ U', CS h S σ c root R L B w' U' o ∧ Goes R B w w'
section
variable {h : Nat} {S : List Nat} {σ : Book} {c root : Nat} {R : List Nat} {L : List En} {B : Nat} {w w' : World} {U : List Nat} {o o' : Option Nat}
theorem CS.below (hc : CS h S σ c root R L B w U o) (hb : Below w.heap.size w w') : CS h S σ c root R L B w' U o := ⟨hc.is.below (heap_serves h) hb, hc.base, Nat.le_trans hc.old hb.size⟩
theorem CS.post (hc : CS h S σ c root R L B w U o) (hp : CurPost (heapStore h) S σ c root R L w U o' w') : CSTo h S σ c root R L B w o' w' := by
  obtain ⟨U', h1, h2, h3, h4⟩ := hp
  obtain ⟨v, ls, hcu, -⟩ := hc.is
  exact ⟨U', ⟨h1, fun b hb => by
    rcases h3 b hb with h | h
    · exact hc.base b h
    · exact Nat.le_trans hc.old h, Nat.le_trans hc.old h2.size⟩, h2.below hc.old hc.base, fun b hb hlt => h2.block b hlt fun hm => hcu.ror b hm hb⟩
theorem CS.first (hc : CS h S σ c root R L B w U o) (hL : Whole σ root L) : Calls Try.prog 18 #[.pointer (some ⟨c, 0, none⟩)] w (fun e w' => e = .returned (.tuple #[.bool (decide (L ≠ [])), .int .i64 0]) ∧ Hid (CSTo h S σ c root R L B w (if L = [] then none else some 0) w')) :=
  (first_ok (heap_serves h) hc.is hL).mono fun e w' ⟨h1, h2⟩ => ⟨h1, Lib.hid (hc.post h2)⟩
theorem CS.last (hc : CS h S σ c root R L B w U o) (hL : Whole σ root L) : Calls Try.prog 21 #[.pointer (some ⟨c, 0, none⟩)] w (fun e w' => e = .returned (.tuple #[.bool (decide (L ≠ [])), .int .i64 0]) ∧ Hid (CSTo h S σ c root R L B w (if L = [] then none else some (L.length - 1)) w')) :=
  (last_ok (heap_serves h) hc.is hL).mono fun e w' ⟨h1, h2⟩ => ⟨h1, Lib.hid (hc.post h2)⟩
theorem CS.next (hc : CS h S σ c root R L B w U o) : Calls Try.prog 14 #[.pointer (some ⟨c, 0, none⟩)] w (fun e w' => e = .returned (.tuple #[.bool (nextO L o).isSome, .int .i64 0]) ∧ Hid (CSTo h S σ c root R L B w (nextO L o) w')) :=
  (next_ok (heap_serves h) hc.is).mono fun e w' ⟨h1, h2⟩ => ⟨h1, Lib.hid (hc.post h2)⟩
theorem CS.prev (hc : CS h S σ c root R L B w U o) : Calls Try.prog 15 #[.pointer (some ⟨c, 0, none⟩)] w (fun e w' => e = .returned (.tuple #[.bool (prevO o).isSome, .int .i64 0]) ∧ Hid (CSTo h S σ c root R L B w (prevO o) w')) :=
  (prev_ok (heap_serves h) hc.is).mono fun e w' ⟨h1, h2⟩ => ⟨h1, Lib.hid (hc.post h2)⟩
theorem CS.seek (hc : CS h S σ c root R L B w U o) (hL : Whole σ root L) (key : ByteArray) : Calls Try.prog 11 #[.pointer (some ⟨c, 0, none⟩), .string key] w (fun e w' => e = .returned (.tuple #[.bool (seekO L key).isSome, .int .i64 0]) ∧ Hid (CSTo h S σ c root R L B w (seekO L key) w')) :=
  (seek_any (heap_serves h) hc.is hL key).mono fun e w' ⟨h1, h2⟩ => ⟨h1, Lib.hid (hc.post h2)⟩
theorem CS.key (hc : CS h S σ c root R L B w U o) : Calls Try.prog 12 #[.pointer (some ⟨c, 0, none⟩)] w (fun e w' => e = .returned (.string (cellAt L o).key) ∧ Hid (Below w.heap.size w w')) :=
  (key_ok hc.is).mono fun e w' ⟨h1, h2⟩ => ⟨h1, Lib.hid h2⟩
/-- A new cursor; R's blocks are others'. -/
theorem CS.new (hat : (heapStore h).At w S σ 0) (root : Nat) (L : List En) (R : List Nat) (hR : ∀ b ∈ R, b < w.heap.size ∧ b ∉ S) (hB : B ≤ w.heap.size) : Calls Try.prog 10 #[.iface 24 (.pointer (some ⟨h, 0, none⟩)), .int .i64 root] w (fun e w' => ∃ c, e = .returned (.pointer (some ⟨c, 0, none⟩)) ∧ Hid (∃ U, CS h S σ c root R L B w' U none ∧ Goes R B w w' ∧ U = [c] ∧ w.heap.size ≤ c)) := by
  refine (cnew_any (heap_serves h) root hat).mono ?_
  rintro e w' ⟨c, rfl, hb, hc, hcu⟩
  refine ⟨c, rfl, Lib.hid ⟨[c], ⟨⟨_, [], hcu.wide (R' := R) (fun b hb' => ⟨Nat.lt_of_lt_of_le (hR b hb').1 hb.size, (hR b hb').2, fun hm => ?_⟩), rfl⟩, fun b hb' => ?_, Nat.le_trans hB hb.size⟩, Goes.below hb hB, rfl, hc⟩⟩
  · rw [List.mem_singleton] at hm
    have := (hR b hb').1
    omega
  · rw [List.mem_singleton] at hb'
    omega
end
theorem cellAt_key (L : List En) (i : Nat) (hi : i < L.length) : (cellAt L (some i)).key = L[i].cell.key := by show (((L[i]?).map (·.cell)).getD Ce.zero).key = _; rw [List.getElem?_eq_getElem hi]; rfl
theorem spotE_pr (L : List En) (key : ByteArray) : Tr.spotE L key = (L.map prK).findIdx fun c => !Nd.lt c.1 key := by
  unfold Tr.spotE Nd.spot
  rw [List.findIdx_map, List.findIdx_map]
  rfl
def awK (i : Nat) : ByteArray := if i = 0 then ⟨#[97]⟩ else ⟨#[99]⟩
def awV (i : Nat) : ByteArray := if i = 0 then ⟨#[49]⟩ else ⟨#[50]⟩
theorem aw_feed : feed awK awV 2 = [((⟨#[97]⟩ : ByteArray), [49]), (⟨#[99]⟩, [50])] := by
  have s1 : (⟨#[97]⟩ : ByteArray).size = 1 := rfl
  have s2 : (⟨#[99]⟩ : ByteArray).size = 1 := rfl
  have s3 : (⟨#[49]⟩ : ByteArray).size = 1 := rfl
  have s4 : (⟨#[50]⟩ : ByteArray).size = 1 := rfl
  simp [feed, awK, awV, putK, Nd.lt, ByteArray.toList_eq, Op.bytesLess, s1, s2, s3, s4, List.findIdx_cons]
end Go.Proofs.Ytllafbcnikoohaa
/- The laws' awake. -/
namespace Go.Proofs.Ytllafbcnikoohaa
open Go.RowKit
set_option maxRecDepth 100000
set_option linter.unusedVariables false
set_option linter.unusedSimpArgs false
theorem aw_seek {L : List En} (h : L.map prK = [((⟨#[97]⟩ : ByteArray), [49]), (⟨#[99]⟩, [50])]) : L.length = 2 ∧ seekO L ⟨#[98]⟩ = some 1 ∧ (cellAt L (some 1)).key = ⟨#[99]⟩ ∧ (cellAt L (some 0)).key = ⟨#[97]⟩ := by
  have hl : L.length = 2 := by have := congrArg List.length h; simpa using this
  have hs : Tr.spotE L ⟨#[98]⟩ = 1 := by
    rw [spotE_pr, h]
    simp [Nd.lt, ByteArray.toList_eq, Op.bytesLess, List.findIdx_cons]
  refine ⟨hl, ?_, ?_, ?_⟩
  · unfold seekO
    rw [hs, if_pos (by omega)]
  · rw [cellAt_key L 1 (by omega)]
    have := congrArg (fun l => l[1]?) h
    simp only [List.getElem?_map, List.getElem?_eq_getElem (by omega : 1 < L.length)] at this
    simp at this
    exact congrArg Prod.fst this
  · rw [cellAt_key L 0 (by omega)]
    have := congrArg (fun l => l[0]?) h
    simp only [List.getElem?_map, List.getElem?_eq_getElem (by omega : 0 < L.length)] at this
    simp at this
    exact congrArg Prod.fst this
set_option maxHeartbeats 16000000 in
theorem awake10 (w : World) : Calls Try.prog 8 #[] w (fun e w' => e = .returned (.bool true) ∧ Below w.heap.size w w') := by
  have hk := Bk.new w 55 #[.string ⟨#[97]⟩, .string ⟨#[49]⟩, .string ⟨#[99]⟩, .string ⟨#[50]⟩]
  have HG := Lib.hid (grown_any (some ⟨w.heap.size, 0, none⟩) 2 2 awK awV (w.alloc (.cells #[.string ⟨#[97]⟩, .string ⟨#[49]⟩, .string ⟨#[99]⟩, .string ⟨#[50]⟩] 55)) (fun i hi => by
    refine ⟨w.heap.size, 0, rfl, hk.lt, ?_, ?_⟩
    · rcases (by omega : i = 0 ∨ i = 1) with rfl | rfl
      · exact hk.cell 0
      · exact hk.cell 2
    · rcases (by omega : i = 0 ∨ i = 1) with rfl | rfl
      · exact hk.cell 1
      · exact hk.cell 3) (by unfold maxLen; omega))
  clear hk
  go_enter Try.func8, Try.ntmps8
  go_wp2_with fail
  refine HG.out.mono ?_
  rintro e w1 ⟨h, S, σ, root, P, L, g, c, rfl, hgr, hL, hb1, hfd⟩
  have hB1 : Below w.heap.size w w1 := ((Below.refl _ w).alloc (Nat.le_refl _) _).trans (hb1.mono (by simp))
  have hfd2 : L.map prK = [((⟨#[97]⟩ : ByteArray), [49]), (⟨#[99]⟩, [50])] := hfd.trans aw_feed
  obtain ⟨l2, sk, k1, k0⟩ := aw_seek hfd2
  have hwh := hgr.root.whole hgr.nodup
  have HB1 := Lib.hid hB1
  have HWH := Lib.hid hwh
  have HSK := Lib.hid sk
  have HK1 := Lib.hid k1
  have HK0 := Lib.hid k0
  have HL2 := Lib.hid l2
  have HN := Lib.hid (CS.new (B := w.heap.size) ((heap_serves h).less hgr.heap (Nat.zero_le _)) root L [] (by simp) hB1.size)
  clear hgr hL hb1 hfd hB1 hfd2 l2 sk k1 k0 hwh
  go_wp2_with fail
  refine HN.out.mono ?_
  rintro e w2 ⟨cp, rfl, hn⟩
  obtain ⟨U2, hc2, hg2, -, -⟩ := hn.out
  have HC2 := Lib.hid hc2
  have HG2 := Lib.hid (HB1.out.trans hg2.1)
  have HX := Lib.hid (hc2.seek HWH.out ⟨#[98]⟩)
  rw [HSK.out] at HX
  clear hn hc2 hg2
  go_wp2_with fail
  refine HX.out.mono ?_
  rintro e w3 ⟨rfl, hn⟩
  obtain ⟨U3, hc3, hg3⟩ := hn.out
  have HG3 := Lib.hid (HG2.out.trans hg3.1)
  have HX3 := Lib.hid hc3.key
  rw [HK1.out] at HX3
  have HC3 := Lib.hid hc3
  clear hn hc3 hg3
  go_wp2_with fail
  refine HX3.out.mono ?_
  rintro e w4 ⟨rfl, hn⟩
  have hc4 := HC3.out.below hn.out
  have HG4 := Lib.hid (HG3.out.trans (hn.out.mono HC3.out.old))
  have HX4 := Lib.hid hc4.prev
  clear hn hc4
  go_wp2_with fail
  refine HX4.out.mono ?_
  rintro e w5 ⟨rfl, hn⟩
  obtain ⟨U5, hc5, hg5⟩ := hn.out
  have HG5 := Lib.hid (HG4.out.trans hg5.1)
  have hc5' : CS h S σ cp root [] L w.heap.size w5 U5 (some 0) := hc5
  have HX5 := Lib.hid hc5'.key
  rw [HK0.out] at HX5
  have HC5 := Lib.hid hc5'
  clear hn hc5 hg5 hc5'
  go_wp2_with fail
  refine HX5.out.mono ?_
  rintro e w6 ⟨rfl, hn⟩
  have hc6 := HC5.out.below hn.out
  have HG6 := Lib.hid (HG5.out.trans (hn.out.mono HC5.out.old))
  have HX6 := Lib.hid hc6.prev
  clear hn hc6
  go_wp2_with fail
  refine HX6.out.mono ?_
  rintro e w7 ⟨rfl, hn⟩
  obtain ⟨U7, hc7, hg7⟩ := hn.out
  have HG7 := Lib.hid (HG6.out.trans hg7.1)
  clear hn hc7 hg7
  go_wp2_with fail
  go_ret
  exact ⟨rfl, HG7.out⟩
end Go.Proofs.Ytllafbcnikoohaa
