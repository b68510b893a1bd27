/- Merged by program: PlainTree7 Put1. -/
import Derived.Test.YtllafbcnikoohaaC7
import Derived.Test.YtllafbcnikoohaaC4
import Derived.Test.YtllafbcnikoohaaC9
import Derived.Test.YtllafbcnikoohaaC10
/- A tree in pages, plain: an entry that is put. -/
namespace Go.Proofs.Ytllafbcnikoohaa
open Go.RowKit
set_option linter.unusedVariables false
set_option linter.unusedSimpArgs false
namespace Tr
/-- Where a key stands among entries; is it there? -/
def spotE (l : List En) (key : ByteArray) : Nat := Nd.spot (l.map (·.cell)) key
def hasE (l : List En) (key : ByteArray) : Bool := Nd.has (l.map (·.cell)) key
def putE (key : ByteArray) (e : En) (l : List En) : List En := l.take (spotE l key) ++ ([e] ++ l.drop (if hasE l key then spotE l key + 1 else spotE l key))
theorem spotE_le (l : List En) (key : ByteArray) : spotE l key ≤ l.length := by have := Nd.spot_le (l.map (·.cell)) key; rw [List.length_map] at this; exact this
theorem spot_of_split (a b : List En) (key : ByteArray) (h1 : ∀ x ∈ a, Nd.lt x.cell.key key = true) (h2 : ∀ y t, b = y :: t → Nd.lt y.cell.key key = false) : spotE (a ++ b) key = a.length := by
  refine Nd.spot_of _ key a.length (by simp) (fun i h => ?_) (fun h => ?_)
  · rw [List.getElem_map, List.getElem_append_left h]
    exact h1 _ (List.getElem_mem h)
  · rw [List.getElem_map, List.getElem_append_right (Nat.le_refl _)]
    cases b with
    | nil => simp at h
    | cons y t => simpa using h2 y t rfl
theorem spot_split (key : ByteArray) : ∀ (l : List En), ∃ a b, l = a ++ b ∧ (∀ x ∈ a, Nd.lt x.cell.key key = true) ∧ (∀ y t, b = y :: t → Nd.lt y.cell.key key = false)
  | [] => ⟨[], [], rfl, by simp, by simp⟩
  | x :: l => by
    cases hx : Nd.lt x.cell.key key with
    | true =>
      obtain ⟨a, b, rfl, h1, h2⟩ := spot_split key l
      exact ⟨x :: a, b, rfl, fun y hy => by rcases List.mem_cons.1 hy with rfl | hy; exact hx; exact h1 y hy, h2⟩
    | false => exact ⟨[], x :: l, rfl, by simp, fun y t e => by injection e with e1 e2; rw [← e1]; exact hx⟩
/-- What stands behind a key that is put. -/
def rest (key : ByteArray) : List En → List En
  | [] => []
  | y :: t => if (y.cell.key.toList == key.toList) = true then t else y :: t
theorem putE_split (a b : List En) (key : ByteArray) (e : En) (h1 : ∀ x ∈ a, Nd.lt x.cell.key key = true) (h2 : ∀ y t, b = y :: t → Nd.lt y.cell.key key = false) : putE key e (a ++ b) = a ++ ([e] ++ rest key b) := by
  have hs := spot_of_split a b key h1 h2
  have hh : hasE (a ++ b) key = (match b with | [] => false | y :: _ => y.cell.key.toList == key.toList) := by
    unfold hasE Nd.has
    rw [show Nd.spot ((a ++ b).map (·.cell)) key = a.length from hs, List.getElem?_map, List.getElem?_append_right (Nat.le_refl _), Nat.sub_self]
    cases b <;> rfl
  unfold putE
  rw [hs, hh, List.take_left]
  cases b with
  | nil => simp [rest]
  | cons y t =>
    simp only [rest]
    split
    · have : (a ++ y :: t).drop (a.length + 1) = t := by rw [← List.drop_drop, List.drop_left]; rfl
      rw [this]
    · rw [List.drop_left]
theorem rest_mem (key : ByteArray) : ∀ (b : List En), ∀ x ∈ rest key b, x ∈ b
  | [], x, h => h
  | y :: t, x, h => by
    simp only [rest] at h
    split at h
    · exact List.mem_cons_of_mem _ h
    · exact h
theorem rest_sub (key : ByteArray) : ∀ (b : List En), (rest key b).Sublist b
  | [] => List.Sublist.refl _
  | y :: t => by
    simp only [rest]
    split
    · exact List.sublist_cons_self _ _
    · exact List.Sublist.refl _
theorem rest_gt {key : ByteArray} {b : List En} (hr : Rising b) (h2 : ∀ y t, b = y :: t → Nd.lt y.cell.key key = false) : ∀ x ∈ rest key b, Nd.lt key x.cell.key = true := by
  cases b with
  | nil => intro x hx; simp [rest] at hx
  | cons y t =>
    have h3 := h2 y t rfl
    have h4 := List.pairwise_cons.1 hr
    intro x hx
    simp only [rest] at hx
    split at hx
    · next he =>
      have he2 : y.cell.key = key := Nd.str_ext (by simpa using he)
      rw [← he2]
      exact h4.1 x hx
    · next he =>
      have hy : Nd.lt key y.cell.key = true := by
        rcases Nd.lt_total y.cell.key key with h | h | h
        · rw [h3] at h; cases h
        · exact absurd (by rw [h]; simp) he
        · exact h
      rcases List.mem_cons.1 hx with rfl | hx
      · exact hy
      · exact Nd.lt_trans hy (h4.1 x hx)
theorem rest_sum (key : ByteArray) : ∀ (b : List En), Nd.sum true ((rest key b).map (·.cell)) ≤ Nd.sum true (b.map (·.cell))
  | [] => Nat.le_refl _
  | y :: t => by
    simp only [rest]
    split
    · rw [List.map_cons, Nd.sum_cons]; omega
    · exact Nat.le_refl _
theorem put_change (key : ByteArray) (e : En) (he : e.cell.key = key) (hs : Nd.size true e.cell ≤ 223) : IsChange key (putE key e) := by
  refine ⟨?_, ?_, ?_, ?_⟩
  · intro A l C hA hC
    obtain ⟨a, b, rfl, h1, h2⟩ := spot_split key l
    rw [putE_split a b key e h1 h2]
    have e0 : A ++ (a ++ b) ++ C = (A ++ a) ++ (b ++ C) := by simp
    rw [e0, putE_split (A ++ a) (b ++ C) key e (fun x hx => by rcases List.mem_append.1 hx with hx | hx; exact hA x hx; exact h1 x hx) (fun y t hy => by
      cases b with
      | nil =>
        rw [List.nil_append] at hy
        exact Nd.lt_asymm (hC y (by rw [hy]; simp))
      | cons y' t' =>
        injection hy with hy1 hy2
        rw [← hy1]
        exact h2 y' t' rfl)]
    have e1 : rest key (b ++ C) = rest key b ++ C := by
      cases b with
      | nil =>
        cases C with
        | nil => rfl
        | cons z u =>
          show rest key (z :: u) = z :: u
          simp only [rest]
          rw [if_neg (by rw [(Nd.lt_ne (hC z (by simp))).2]; simp)]
      | cons y t =>
        show rest key (y :: (t ++ C)) = _
        simp only [rest]
        split <;> simp
    rw [e1]
    simp
  · intro l x hx
    obtain ⟨a, b, rfl, h1, h2⟩ := spot_split key l
    rw [putE_split a b key e h1 h2] at hx
    rcases List.mem_append.1 hx with hx | hx
    · exact .inl (by simp [hx])
    · rcases List.mem_append.1 hx with hx | hx
      · rw [List.mem_singleton.1 hx]; exact .inr he
      · exact .inl (by have := rest_mem key b x hx; simp [this])
  · intro l hr
    obtain ⟨a, b, rfl, h1, h2⟩ := spot_split key l
    rw [putE_split a b key e h1 h2]
    obtain ⟨r1, r2, r3⟩ := rising_app hr
    have hg := rest_gt r2 h2
    refine List.pairwise_append.2 ⟨r1, List.pairwise_cons.2 ⟨fun x hx => by rw [he]; exact hg x hx, List.Pairwise.sublist (rest_sub key b) r2⟩, fun x hx y hy => ?_⟩
    rcases List.mem_cons.1 hy with rfl | hy
    · rw [he]; exact h1 x hx
    · exact Nd.lt_trans (h1 x hx) (hg y hy)
  · intro l
    obtain ⟨a, b, rfl, h1, h2⟩ := spot_split key l
    rw [putE_split a b key e h1 h2]
    have e1 := Nd.sum_app true (a.map (·.cell)) ((e :: rest key b).map (·.cell))
    have e2 := Nd.sum_app true (a.map (·.cell)) (b.map (·.cell))
    have e3 := rest_sum key b
    rw [← List.map_append] at e1 e2
    rw [List.map_cons, Nd.sum_cons] at e1
    show Nd.sum true ((a ++ (e :: rest key b)).map (·.cell)) ≤ _
    omega
theorem put_ne (key : ByteArray) (e : En) (l : List En) : putE key e l ≠ [] := by
  unfold putE
  simp
end Tr
end Go.Proofs.Ytllafbcnikoohaa
/- What the closure in tree.Put does. -/
namespace Go.Proofs.Ytllafbcnikoohaa
open Go.RowKit
set_option maxRecDepth 100000
set_option linter.unusedVariables false
set_option linter.unusedSimpArgs false
namespace Tr
theorem put_new {l : List En} {key : ByteArray} (e : En) (h : hasE l key = false) : (putE key e l).map (·.cell) = insC (l.map (·.cell)) (spotE l key) e.cell ∧ ((l.flatMap (·.pages)) ++ e.pages).Perm ((putE key e l).flatMap (·.pages)) := by
  unfold putE insC
  rw [h]
  refine ⟨by simp, ?_⟩
  have e1 : l.flatMap (·.pages) = (l.take (spotE l key)).flatMap (·.pages) ++ (l.drop (spotE l key)).flatMap (·.pages) := by rw [← flatMap_app, List.take_append_drop]
  rw [e1, flatMap_app, flatMap_app]
  simp only [List.flatMap_cons, List.flatMap_nil, List.append_nil, Bool.false_eq_true, if_false, List.append_assoc]
  exact List.Perm.append_left _ List.perm_append_comm
theorem put_old {l : List En} {key : ByteArray} (e : En) (h : hasE l key = true) : ∃ hi : spotE l key < l.length, putE key e l = l.set (spotE l key) e := by
  have hi : spotE l key < l.length := by
    by_cases hl : spotE l key < l.length
    · exact hl
    · unfold hasE Nd.has at h
      rw [List.getElem?_eq_none (by rw [List.length_map]; exact Nat.le_of_not_lt hl)] at h
      cases h
  refine ⟨hi, ?_⟩
  unfold putE
  rw [h, List.set_eq_take_append_cons_drop, if_pos hi]
  rfl
end Tr
/-- What releasing leaves. -/
def Rel (p : Store) (S : List Nat) (σ : Book) (k : Nat) (P : List Nat) (w w' : World) : Prop := ∃ σ', Step p S w w' σ' k ∧ Tr.Moved σ P σ' []
theorem Rel.off {p : Store} {S : List Nat} {σ : Book} {k : Nat} {P : List Nat} {w w' : World} (h : Rel p S σ k P w w') : Off S w w' := by obtain ⟨_, ⟨_, _, h, _⟩, _⟩ := h; exact h
/-- A cell of a row of one's own is another one. -/
theorem COwn.set {w : World} {B g n c : Nat} {l : List Ce} (h : COwn w B (.slice (Option.some ⟨g, 0, none⟩) n c) l) (hn : n = l.length) (i : Nat) (hi : i < l.length) (x : Ce) :
    COwn (((((w.setCell ⟨g, i * 5, none⟩ (.string x.key)).setCell ⟨g, i * 5 + 1, none⟩ (.string x.val)).setCell ⟨g, i * 5 + 2, none⟩ (.int .i64 x.over)).setCell ⟨g, i * 5 + 3, none⟩ (.int .i64 x.size)).setCell ⟨g, i * 5 + 4, none⟩ (.int .i64 x.child)) B (.slice (Option.some ⟨g, 0, none⟩) n c) (l.set i x) := by
  subst hn
  have h1 := (World.ownsRow.stored h (i * 5) (.string x.key)).1
  have h2 := (World.ownsRow.stored h1 (i * 5 + 1) (.string x.val)).1
  have h3 := (World.ownsRow.stored h2 (i * 5 + 2) (.int .i64 x.over)).1
  have h4 := (World.ownsRow.stored h3 (i * 5 + 3) (.int .i64 x.size)).1
  have h5 := (World.ownsRow.stored h4 (i * 5 + 4) (.int .i64 x.child)).1
  unfold COwn
  rw [List.length_set]
  have e : (((((flatC l).set (i * 5) (.string x.key)).set (i * 5 + 1) (.string x.val)).set (i * 5 + 2) (.int .i64 x.over)).set (i * 5 + 3) (.int .i64 x.size)).set (i * 5 + 4) (.int .i64 x.child) = flatC (l.set i x) := by
    have e1 : l = l.take i ++ ([l[i]] ++ l.drop (i + 1)) := by rw [List.singleton_append, ← List.drop_eq_getElem_cons hi, List.take_append_drop]
    have e2 : l.set i x = l.take i ++ ([x] ++ l.drop (i + 1)) := by rw [List.set_eq_take_append_cons_drop, if_pos hi]; rfl
    have hl : (flatC (l.take i)).length = i * 5 := by rw [flatC_len, List.length_take]; omega
    rw [e2]
    conv => lhs; rw [e1]
    simp only [flatC_app, flatC_one]
    have hs : ∀ (a b : List Value) (j : Nat) (v : Value), a.length = i * 5 → (a ++ b).set (i * 5 + j) v = a ++ b.set j v := fun a b j v ha => by
      rw [List.set_append_right _ _ (by omega), show i * 5 + j - a.length = j by omega]
    have h0 : (flatC (l.take i) ++ (([.string l[i].key, .string l[i].val, .int .i64 l[i].over, .int .i64 l[i].size, .int .i64 l[i].child] : List Value) ++ flatC (l.drop (i + 1)))).set (i * 5) (.string x.key) = flatC (l.take i) ++ (([.string l[i].key, .string l[i].val, .int .i64 l[i].over, .int .i64 l[i].size, .int .i64 l[i].child] : List Value) ++ flatC (l.drop (i + 1))).set 0 (.string x.key) := hs _ _ 0 _ hl
    rw [h0, hs _ _ 1 _ hl, hs _ _ 2 _ hl, hs _ _ 3 _ hl, hs _ _ 4 _ hl]
    rfl
  rw [← e]
  exact h5
theorem put_replaced {σ σ' : Book} {l : List En} {i : Nat} {old e : En} (hi : i < l.length) (ho : old = l[i]) (he : Tr.EnOk σ e) (hl : ∀ x ∈ l, Tr.EnOk σ x) (hnd : (l.flatMap (·.pages) ++ e.pages).Nodup) (hm : Tr.Moved σ old.pages σ' []) :
    Tr.Moved σ (l.flatMap (·.pages) ++ e.pages) σ' ((l.set i e).flatMap (·.pages)) ∧ ∀ x ∈ l.set i e, Tr.EnOk σ' x := by
  obtain ⟨a, b, rfl, ha⟩ : ∃ a b, l = a ++ (old :: b) ∧ a.length = i := ⟨l.take i, l.drop (i + 1), by rw [ho, ← List.drop_eq_getElem_cons hi, List.take_append_drop], by rw [List.length_take]; omega⟩
  have hset : (a ++ old :: b).set i e = a ++ e :: b := by
    rw [← ha, List.set_append_right _ _ (Nat.le_refl _), Nat.sub_self]
    rfl
  rw [hset]
  have hp1 : ((a ++ old :: b).flatMap (·.pages) ++ e.pages).Perm (old.pages ++ (a.flatMap (·.pages) ++ b.flatMap (·.pages) ++ e.pages)) := by
    rw [Tr.flatMap_app, List.flatMap_cons]
    have : (a.flatMap (·.pages) ++ (old.pages ++ b.flatMap (·.pages)) ++ e.pages).Perm ((old.pages ++ (a.flatMap (·.pages) ++ b.flatMap (·.pages))) ++ e.pages) := by
      refine List.Perm.append_right _ ?_
      rw [← List.append_assoc, ← List.append_assoc]
      exact List.perm_append_comm.append_right _
    rw [List.append_assoc old.pages] at this
    exact this
  have hn2 := hp1.nodup_iff.1 hnd
  obtain ⟨n1, n2, n3⟩ := List.nodup_append.1 hn2
  have hR : ∀ n ∈ a.flatMap (·.pages) ++ b.flatMap (·.pages) ++ e.pages, σ n ≠ none := fun n hn => by
    rcases List.mem_append.1 hn with hn | hn
    · rcases List.mem_append.1 hn with hn | hn
      · obtain ⟨x, hx, hn⟩ := List.mem_flatMap.1 hn
        exact ((hl x (by simp [hx])).mem n hn).2.2
      · obtain ⟨x, hx, hn⟩ := List.mem_flatMap.1 hn
        exact ((hl x (by simp [hx])).mem n hn).2.2
    · exact (he.mem n hn).2.2
  have hd : ∀ n ∈ a.flatMap (·.pages) ++ b.flatMap (·.pages) ++ e.pages, n ∉ old.pages := fun n hn ho => n3 n ho n hn rfl
  have hfr := hm.frame hR n2 hd
  have hsame := hm.same hR hd
  refine ⟨hfr.perm hp1.symm ?_, fun x hx => ?_⟩
  · rw [List.nil_append, Tr.flatMap_app, List.flatMap_cons, List.append_assoc]
    exact List.Perm.append_left _ List.perm_append_comm
  · rcases List.mem_append.1 hx with hx | hx
    · exact (hl x (by simp [hx])).congr fun n hn => hsame n (by simp only [List.mem_append]; exact .inl (.inl (List.mem_flatMap.2 ⟨x, hx, hn⟩)))
    · rcases List.mem_cons.1 hx with rfl | hx
      · exact he.congr fun n hn => hsame n (by simp only [List.mem_append]; exact .inr hn)
      · exact (hl x (by simp [hx])).congr fun n hn => hsame n (by simp only [List.mem_append]; exact .inl (.inr (List.mem_flatMap.2 ⟨x, hx, hn⟩)))
set_option maxHeartbeats 16000000 in
theorem put1_spec {p : Store} (hp : Serves p) {w0 : World} {S0 : List Nat} {σ0 : Book} {kb cb pb : Nat} (key : ByteArray) (e : En) (hk : Bk w0 kb 9 #[.string key]) (hc : Bk w0 cb 68 #[.string e.cell.key, .string e.cell.val, .int .i64 e.cell.over, .int .i64 e.cell.size, .int .i64 e.cell.child]) (hpb : Bk w0 pb 59 #[.iface p.T p.v])
    (hkS : kb ∉ S0) (hcS : cb ∉ S0) (hpS : pb ∉ S0) (he : Tr.EnOk σ0 e) : DoSpec p 39 #[.pointer (some ⟨kb, 0, none⟩), .pointer (some ⟨cb, 0, none⟩), .pointer (some ⟨pb, 0, none⟩)] w0 S0 σ0 e.pages (Tr.putE key e) := by
  refine ⟨fun args W => Try.call39 args W, ?_⟩
  intro w S σ k l A c B h0 h1 hat hri hok hnd hX hown hB0 hns hB hll
  have hk' := h0.bk hk hkS
  have hc' := h0.bk hc hcS
  have hp' := h0.bk hpb hpS
  have hkl := hk'.cell 0
  have hkb : w.cell? ⟨kb, 0, none⟩ = some (.string key) := hk'.cell 0
  have hrow := hown.as
  have HPL := Lib.hid (show Calls Try.prog 40 #[.slice A l.length c, .string key] w (fun e w' => e = .returned (.tuple #[.int .i64 (Tr.spotE l key : Nat), .bool (Tr.hasE l key)]) ∧ Below w.heap.size w w') from place_any ⟨A, l.length, c⟩ (l.map (fun x : En => x.cell)) key _ w hrow (by rw [List.length_map]; omega))
  have hsp := Tr.spotE_le l key
  have hcm : c ≤ 9223372036854775807 := by have := hrow.2.2.1; simp only at this; unfold maxLen at this; omega
  have heX : Tr.EnOk σ e := he.congr hX
  have HEX := Lib.hid heX
  have HAT := Lib.hid hat
  have HOWN := Lib.hid hown
  have HOK := Lib.hid hok
  have HND := Lib.hid hnd
  have HNS := Lib.hid hns
  have HK := Lib.hid hk'
  have HC := Lib.hid hc'
  have HP := Lib.hid hp'
  have lk := hk'.lt
  cases hh : Tr.hasE l key with
  | false =>
    obtain ⟨hm1, hm2⟩ := Tr.put_new e hh
    rw [hh] at HPL
    have HM1 := Lib.hid hm1
    have HM2 := Lib.hid hm2
    obtain ⟨i, hi⟩ : ∃ i, i = Tr.spotE l key := ⟨_, rfl⟩
    rw [← hi] at HPL HM1 hsp
    clear hk' hc' hp' hkl hrow heX hat hown hok hnd hns hh hm1 hm2 hi hX he hk hc hpb
    go_enter Try.func39, Try.ntmps39
    go_wp2_with fail
    refine HPL.out.mono ?_
    rintro x w1 ⟨rfl, hb1⟩
    have hcb := bk_below HC.out hb1
    obtain ⟨u0, u1, u2, u3, u4, -, -, -, -, -, ul⟩ := hcb.all5
    have hba : Below w.heap.size w (w1.alloc (.cells #[.string e.cell.key, .string e.cell.val, .int .i64 e.cell.over, .int .i64 e.cell.size, .int .i64 e.cell.child] 68)) := hb1.alloc hb1.size _
    have hown1 : COwn (w1.alloc (.cells #[.string e.cell.key, .string e.cell.val, .int .i64 e.cell.over, .int .i64 e.cell.size, .int .i64 e.cell.child] 68)) B (.slice A (l.map (·.cell)).length c) (l.map (·.cell)) := by
      rw [List.length_map]
      exact HOWN.out.below hba
    have hown1' := hown1
    have hin := insert_any A B w1.heap.size i c (l.map (·.cell)) e.cell _ hown1 (by have := hba.size; omega) (by rw [List.length_map]; omega) (by rw [List.length_map]; omega) (Bk.new w1 _ _) (fun hb => by
      rw [List.length_map] at hb
      have := (World.ownsRow.lt HOWN.out _ hb).2
      have := hb1.size
      omega)
    rw [List.length_map] at hin
    have HIN := Lib.hid hin
    have HBA := Lib.hid hba
    clear hin hown1 hown1' hba hcb hb1
    go_wp2_with fail
    refine HIN.out.mono ?_
    rintro x w2 ⟨U, A2, c2, hU, hof2, rfl, hown2, hnw2⟩
    have hoff : Off U w w2 := ((Off.of_below HBA.out U).trans hof2)
    have hrow2 : ∀ S', (∀ b ∈ S', b ∈ S) → CRow w2 (Cl 0 S') ⟨A2, (Tr.putE key e l).length, c2⟩ ((Tr.putE key e l).map (·.cell)) := fun S' hS' => by
      rw [HM1.out, show (Tr.putE key e l).length = (insC (l.map (·.cell)) i e.cell).length by rw [← HM1.out, List.length_map]]
      have hlen0 : 0 < (insC (l.map (·.cell)) i e.cell).length := by rw [insC_len _ _ _ (by rw [List.length_map]; omega)]; omega
      obtain ⟨g2, rfl, -⟩ := hown2.full hlen0
      refine hown2.here (fun hg => ?_)
      rcases hnw2 g2 rfl with h9 | h9
      · exact HNS.out g2 h9 (hS' g2 hg)
      · have h8 := hp.old HAT.out g2 (hS' g2 hg)
        have h7 := HBA.out.size
        omega
    have hlen : (insC (l.map (·.cell)) i e.cell).length = (Tr.putE key e l).length := by rw [← HM1.out, List.length_map]
    have HEND := Lib.hid (show DoPost p S σ k B e.pages l (Tr.putE key e l) w (.returned (.tuple #[.slice A2 (insC (l.map (·.cell)) i e.cell).length c2, .int .i64 0])) w2 from
      ⟨A2, c2, σ, S, U, by rw [hlen], hrow2 S (fun _ h => h), (Tr.Moved.refl (fun n hn => by
        rcases List.mem_append.1 hn with hn | hn
        · obtain ⟨x, hx, hn⟩ := List.mem_flatMap.1 hn
          exact ((HOK.out x hx).mem n hn).2.2
        · exact (HEX.out.mem n hn).2.2) HND.out).perm (List.Perm.refl _) HM2.out, (fun x hx => by
        unfold Tr.putE at hx
        rcases List.mem_append.1 hx with hx | hx
        · exact HOK.out x (List.mem_of_mem_take hx)
        · rcases List.mem_append.1 hx with hx | hx
          · rw [List.mem_singleton.1 hx]; exact HEX.out
          · exact HOK.out x (List.mem_of_mem_drop hx)), hp.off HAT.out hoff (fun b hb hu => HNS.out b (hU b hu) hb), hoff, fun g hg => .inr (World.ownsRow.lt HOWN.out g (hU g hg)).1, Fresh.refl _ _⟩)
    clear hoff hrow2 hlen hU hof2 hown2 hnw2
    go_wp2_with fail
    go_ret2
    exact HEND.out
  | true =>
    obtain ⟨hi, hset⟩ := Tr.put_old e hh
    rw [hh] at HPL
    obtain ⟨i, hie⟩ : ∃ i, i = Tr.spotE l key := ⟨_, rfl⟩
    rw [← hie] at HPL hset hsp
    have hil : i < l.length := by rw [hie]; exact hi
    obtain ⟨g, rfl, -⟩ := hown.full (by rw [List.length_map]; omega)
    have hgS : g ∉ S := hns g rfl
    have hgl : g < w.heap.size := (World.ownsRow.lt hown g rfl).2
    obtain ⟨b9, o9, hA9, -, q0, q1, q2, q3, q4⟩ := hrow.at i (by rw [List.length_map]; exact hil)
    simp only [Option.some.injEq, Addr.mk.injEq, and_true] at hA9
    obtain ⟨rfl, rfl⟩ := hA9
    obtain ⟨old, hold⟩ : ∃ x, x = l[i] := ⟨_, rfl⟩
    simp only [List.getElem_map, Nat.zero_add] at q0 q1 q2 q3 q4
    rw [← hold] at q0 q1 q2 q3 q4
    have hpS1 : pb ∉ S := fun hs => by
      rcases h1 pb hs with h9 | h9
      · exact hpS h9
      · have := hpb.lt; omega
    have hcS1 : cb ∉ S := fun hs => by
      rcases h1 cb hs with h9 | h9
      · exact hcS h9
      · have := hc.lt; omega
    have hndo : old.pages.Nodup := by
      have h9 := (List.nodup_append.1 hnd).1
      have e9 : l = l.take i ++ (old :: l.drop (i + 1)) := by rw [hold, ← List.drop_eq_getElem_cons hil, List.take_append_drop]
      rw [e9, Tr.flatMap_app, List.flatMap_cons] at h9
      exact (List.nodup_append.1 (List.nodup_append.1 h9).2.1).1
    have HRL := Lib.hid fun (W : World) (hb : Below w.heap.size w W) => (show Calls Try.prog 42 #[.iface p.T p.v, .agg #[.string old.cell.key, .string old.cell.val, .int .i64 old.cell.over, .int .i64 old.cell.size, .int .i64 old.cell.child]] W (fun x w' => x = .returned (.int .i64 0) ∧ Hid (Rel p S σ k old.pages W w')) from (release_ok hp (hp.below hat hb) old (hok old (by rw [hold]; exact List.getElem_mem hil)) hndo).mono fun x w' h => ⟨h.1, Lib.hid h.2⟩)
    have HSET := Lib.hid hset
    have HOLD := Lib.hid hold
    have HKS := Lib.hid (show ∀ W : World, Off S w W → W.cell? ⟨pb, 0, none⟩ = some (.iface p.T p.v) ∧ W.cell? ⟨g, i * 5, none⟩ = some (.string old.cell.key) ∧ W.cell? ⟨g, i * 5 + 1, none⟩ = some (.string old.cell.val) ∧ W.cell? ⟨g, i * 5 + 2, none⟩ = some (.int .i64 old.cell.over) ∧ W.cell? ⟨g, i * 5 + 3, none⟩ = some (.int .i64 old.cell.size) ∧ W.cell? ⟨g, i * 5 + 4, none⟩ = some (.int .i64 old.cell.child) from fun W hb =>
      ⟨(hb.cell (p := ⟨pb, 0, none⟩) hp'.lt hpS1).trans (hp'.cell 0), (hb.cell (p := ⟨g, _, none⟩) hgl hgS).trans q0, (hb.cell (p := ⟨g, _, none⟩) hgl hgS).trans q1, (hb.cell (p := ⟨g, _, none⟩) hgl hgS).trans q2, (hb.cell (p := ⟨g, _, none⟩) hgl hgS).trans q3, (hb.cell (p := ⟨g, _, none⟩) hgl hgS).trans q4⟩)
    have lp := hp'.lt
    clear hk' hc' hp' hkl hrow heX hat hown hok hnd hns hh hie hX he hk hc hpb hi hset q0 q1 q2 q3 q4 hndo hold
    go_enter Try.func39, Try.ntmps39
    go_wp2_with fail
    refine HPL.out.mono ?_
    rintro x w1 ⟨rfl, hb1⟩
    have HB1 := Lib.hid hb1
    have HO1 := Lib.hid ((Off.of_below hb1 S).drew)
    have HR1 := Lib.hid (HRL.out w1.drew hb1.drew)
    have hg1 : g < w1.heap.size := Nat.lt_of_lt_of_le hgl hb1.size
    have hp1 : pb < w1.heap.size := Nat.lt_of_lt_of_le lp hb1.size
    clear hb1
    go_wp2_with fail
    go_region_held3 (fun W => W.cell? ⟨pb, 0, none⟩ = some (.iface p.T p.v) ∧ W.cell? ⟨g, i * 5, none⟩ = some (.string old.cell.key) ∧ W.cell? ⟨g, i * 5 + 1, none⟩ = some (.string old.cell.val) ∧ W.cell? ⟨g, i * 5 + 2, none⟩ = some (.int .i64 old.cell.over) ∧ W.cell? ⟨g, i * 5 + 3, none⟩ = some (.int .i64 old.cell.size) ∧ W.cell? ⟨g, i * 5 + 4, none⟩ = some (.int .i64 old.cell.child)) (first | (with_reducible exact HKS.out _ HO1.out) | (with_reducible exact HKS.out _ (HO1.out.trans (Rel.off hr2.out)))) (first
      | (go_at_call 42; (with_reducible refine HR1.out.mono ?_); rintro x w2 ⟨rfl, hr2⟩))
    all_goals
      obtain ⟨σ', ⟨S2, hat2, hof2, hfr2⟩, hmv2⟩ := hr2.out
      have hoff : Off S w w2 := HO1.out.trans hof2
      have hown2 : COwn w2 B (.slice (some ⟨g, 0, none⟩) l.length c) (l.map (·.cell)) := Off.own hoff HOWN.out HNS.out
      have hcb2 := hoff.bk HC.out hcS1
      obtain ⟨u0, u1, u2, u3, u4, -, -, -, -, -, ul⟩ := hcb2.all5
      obtain ⟨-, v0, v1, v2, v3, v4⟩ := HKS.out w2 hoff
      have hown3 : w2.ownsRow B 68 5 (.slice (some ⟨g, 0, none⟩) l.length c) l.length (flatC (l.map (·.cell))) := by
        have h9 := hown2
        unfold COwn at h9
        rwa [List.length_map] at h9
      have f0 := World.ownsRow.frozenAt hown3 (i * 5)
      have f1 := World.ownsRow.frozenAt hown3 (i * 5 + 1)
      have f2 := World.ownsRow.frozenAt hown3 (i * 5 + 2)
      have f3 := World.ownsRow.frozenAt hown3 (i * 5 + 3)
      have f4 := World.ownsRow.frozenAt hown3 (i * 5 + 4)
      have hg2 : g < w2.heap.size := Nat.lt_of_lt_of_le hgl hoff.size
      have HW2 := Lib.hid hown2
      have HAT2 := Lib.hid hat2
      have HOF2 := Lib.hid hoff
      have HFR2 := Lib.hid (show Fresh w S S2 from hfr2.mono HB1.out.size)
      have HMV2 := Lib.hid hmv2
      clear hat2 hof2 hfr2 hmv2 hoff hown2 hown3 hcb2 hr2
      have hgS2 : g ∉ S2 := fun hs => by
        rcases HFR2.out g hs with h9 | h9
        · exact hgS h9
        · omega
      have HROW := Lib.hid ((COwn.set HW2.out (by rw [List.length_map]) i (by rw [List.length_map]; exact hil) e.cell).here hgS2)
      have hoffg : Off [g] w2 (((((w2.setCell ⟨g, i * 5, none⟩ (.string e.cell.key)).setCell ⟨g, i * 5 + 1, none⟩ (.string e.cell.val)).setCell ⟨g, i * 5 + 2, none⟩ (.int .i64 e.cell.over)).setCell ⟨g, i * 5 + 3, none⟩ (.int .i64 e.cell.size)).setCell ⟨g, i * 5 + 4, none⟩ (.int .i64 e.cell.child)) :=
        (((((Off.refl [g] w2).setCell (p := ⟨g, i * 5, none⟩) (.inl (by simp)) _).setCell (p := ⟨g, i * 5 + 1, none⟩) (.inl (by simp)) _).setCell (p := ⟨g, i * 5 + 2, none⟩) (.inl (by simp)) _).setCell (p := ⟨g, i * 5 + 3, none⟩) (.inl (by simp)) _).setCell (p := ⟨g, i * 5 + 4, none⟩) (.inl (by simp)) _
      have HOG := Lib.hid hoffg
      have hgB : B ≤ g := (World.ownsRow.lt HOWN.out g rfl).1
      have hres := put_replaced hil HOLD.out HEX.out HOK.out HND.out HMV2.out
      rw [← HSET.out] at hres
      have hlenp : (Tr.putE key e l).length = l.length := by rw [HSET.out, List.length_set]
      have hmapp : (Tr.putE key e l).map (·.cell) = (l.map (·.cell)).set i e.cell := by rw [HSET.out, List.map_set]
      have HRES := Lib.hid hres
      have HLP := Lib.hid hlenp
      have HMP := Lib.hid hmapp
      have HEND := Lib.hid (show DoPost p S σ k B e.pages l (Tr.putE key e l) w (.returned (.tuple #[.slice (some ⟨g, 0, none⟩) l.length c, .int .i64 0])) (((((w2.setCell ⟨g, i * 5, none⟩ (.string e.cell.key)).setCell ⟨g, i * 5 + 1, none⟩ (.string e.cell.val)).setCell ⟨g, i * 5 + 2, none⟩ (.int .i64 e.cell.over)).setCell ⟨g, i * 5 + 3, none⟩ (.int .i64 e.cell.size)).setCell ⟨g, i * 5 + 4, none⟩ (.int .i64 e.cell.child)) from by
        refine ⟨some ⟨g, 0, none⟩, c, σ', S2, g :: S, by rw [HLP.out], ?_, HRES.out.1, HRES.out.2, hp.off HAT2.out HOG.out (fun b hb hg => ?_), ?_, fun x hx => ?_, HFR2.out⟩
        · rw [HLP.out, HMP.out]; exact HROW.out
        · rw [List.mem_singleton] at hg
          subst hg
          exact hgS2 hb
        · exact (HOF2.out.mono (fun x hx => .inl (by simp [hx]))).then HOG.out (fun x hx => .inl (by rw [List.mem_singleton] at hx; simp [hx]))
        · rcases List.mem_cons.1 hx with rfl | hx
          · exact .inr hgB
          · exact .inl hx)
      clear hoffg hres hlenp hmapp hgS2
      go_wp2_with fail
      go_ret2
      exact HEND.out
end Go.Proofs.Ytllafbcnikoohaa
