/- Merged by program: EditA PlainTree5 PlainTree6. -/
import Derived.Test.YtllafbcnikoohaaC6
import Derived.Test.YtllafbcnikoohaaC5
/- What tree.edit is to do; a leaf that is changed. -/
namespace Go.Proofs.Ytllafbcnikoohaa
open Go.RowKit
set_option maxRecDepth 100000
set_option linter.unusedVariables false
set_option linter.unusedSimpArgs false
/-- What a change leaves. -/
def DoPost (p : Store) (S : List Nat) (σ : Book) (k B : Nat) (X : List Nat) (l fl : List En) (w : World) (e : Ending) (w' : World) : Prop :=
  ∃ (A' : Option Addr) (c' : Nat) (σ' : Book) (S' U : List Nat), e = .returned (.tuple #[.slice A' fl.length c', .int .i64 0]) ∧ CRow w' (Cl 0 S') ⟨A', fl.length, c'⟩ (fl.map (·.cell)) ∧
      Tr.Moved σ (l.flatMap (·.pages) ++ X) σ' (fl.flatMap (·.pages)) ∧ (∀ e ∈ fl, Tr.EnOk σ' e) ∧ p.At w' S' σ' k ∧ Off U w w' ∧ (∀ g ∈ U, g ∈ S ∨ B ≤ g) ∧ Fresh w S S'
/-- What a change does with a leaf's cells, from a world w0 on. -/
structure DoSpec (p : Store) (fc : Nat) (caps : Array Value) (w0 : World) (S0 : List Nat) (σ0 : Book) (X : List Nat) (f : List En → List En) : Prop where
  enter : ∀ args W, Sem.run Try.prog (callFunc fc args) W = .ok (.enter fc args) W
  does : ∀ (w : World) (S : List Nat) (σ : Book) (k : Nat) (l : List En) (A : Option Addr) (c : Nat) (B : Nat), Off S0 w0 w → Fresh w0 S0 S → p.At w S σ k → Tr.Rising l → (∀ e ∈ l, Tr.EnOk σ e) → (l.flatMap (·.pages) ++ X).Nodup → (∀ n ∈ X, σ n = σ0 n) →
    COwn w B (.slice A l.length c) (l.map (·.cell)) → w0.heap.size ≤ B → (∀ g, Value.ownBlock (.slice A l.length c) = some g → g ∉ S) → B ≤ w.heap.size → l.length ≤ 500 →
    Calls Try.prog fc (#[.slice A l.length c] ++ caps) w (DoPost p S σ k B X l (f l) w)
/-- What tree.edit tells. -/
def EditOk (p : Store) (S : List Nat) (σ : Book) (k d : Nat) (key : ByteArray) (Q : List Nat) (L : List En) (w : World) (e : Ending) (w' : World) : Prop :=
  ∃ (r : Rw) (ps : List Pt) (xs : List Tr.Pd) (P' : List Nat) (σ' : Book) (S' : List Nat) (k' : Nat), e = .returned (.tuple #[.slice r.A r.n r.c, .int .i64 0]) ∧ PRow w' (Cl 0 S') r ps ∧ Tr.Parts σ' d key ps P' L xs ∧ Tr.Moved σ Q σ' P' ∧ p.At w' S' σ' k' ∧ k ≤ k' + 2 * d ∧ Off S w w' ∧ Fresh w S S'
theorem Tr.Moved.nil_left {σ σ' : Book} {n : Nat} {Q P' : List Nat} (h : Tr.Moved (Tr.upd σ n none) Q σ' P') (hQ : ∀ m ∈ Q, σ m ≠ none) (hn : σ n ≠ none) (hnd : Q.Nodup) (hnq : n ∉ Q) : Tr.Moved σ (n :: Q) σ' P' := by
  have f1 := (Tr.Moved.drop σ n).frame hQ hnd (fun m hm => by simp; rintro rfl; exact hnq hm)
  exact f1.trans h
set_option maxHeartbeats 16000000 in
theorem edit_leaf {p : Store} (hp : Serves p) {fc : Nat} {caps : Array Value} {w0 : World} {S0 : List Nat} {σ0 : Book} {X : List Nat} {f : List En → List En} (key : ByteArray) (hf : Tr.IsChange key f) (hdo : DoSpec p fc caps w0 S0 σ0 X f)
    {w : World} {S : List Nat} {σ : Book} {k : Nat} (h : p.At w S σ k) (h0 : Off S0 w0 w) (h1 : Fresh w0 S0 S) (no : Nat) (frm : ByteArray) (depth : Nat) {P : List Nat} {L : List En} (hst : Tr.Stored σ 0 no P L) (hnd : (P ++ X).Nodup) (hX : ∀ n ∈ X, σ n = σ0 n ∧ σ n ≠ none)
    (hlow : ∀ e ∈ L, Nd.lt e.cell.key frm = false) (hkey : Nd.lt key frm = false) (hfs : frm.size ≤ 120) (hdep : depth ≤ 10) :
    Calls Try.prog 50 #[.iface p.T p.v, .int .i64 no, .string frm, .string key, .func (.func fc) #[] caps, .int .i64 depth] w (EditOk p S σ k 0 frm (P ++ X) (f L) w) := by
  obtain ⟨cs, P', rfl, g1, g2, g3, g4, g5, g6, -⟩ := hst
  have hpr := g4.right
  have hsz := Nd.sum_ge true cs
  obtain ⟨q1, q2, q3, q4⟩ := id g4
  subst q1
  rw [List.length_map] at hsz
  have hLl : L.length ≤ 500 := by have : Nd.sum true (L.map (·.cell)) ≤ 488 := g5; omega
  have HLD := Lib.hid (load_ok hp h no true _ hpr.1 g5 g3)
  have hnn : σ no ≠ none := by rw [g3]; simp
  obtain ⟨fd, rv, -, hm, hen, hd⟩ := hp.drop
  have hnno : no ∉ P' ++ X := (List.nodup_cons.1 (by simpa using hnd)).1
  have hndr : (P' ++ X).Nodup := (List.nodup_cons.1 (by simpa using hnd)).2
  have hmem : ∀ m ∈ P' ++ X, σ m ≠ none := fun m hm => by
    rcases List.mem_append.1 hm with hm | hm
    · exact (g4.mem m hm).2.2
    · exact (hX m hm).2
  have HA := Lib.hid h
  have HOLD := Lib.hid (hp.old h)
  have z0 : decide ((10 : Int) < (depth : Int)) = false := decide_eq_false (by omega)
  have he := hdo.enter
  have HD := Lib.hid hd
  have hup : ∀ m ∈ P' ++ X, Tr.upd σ no none m = σ m := fun m hm => Tr.upd_ne _ _ (fun e => hnno (by rw [← e]; exact hm))
  have hpw : ∀ e ∈ L, ∀ m ∈ e.pages, m ∈ P' ++ X := fun e he m hm => List.mem_append.2 (.inl (by rw [q2]; exact List.mem_flatMap.2 ⟨e, he, hm⟩))
  have HQ3 := Lib.hid q3
  have HEO := Lib.hid (show ∀ e ∈ L, Tr.EnOk (Tr.upd σ no none) e from fun e he => (q4 e he).congr fun m hm => hup m (hpw e he m hm))
  have HND := Lib.hid (show (L.flatMap (·.pages) ++ X).Nodup by rw [← q2]; exact hndr)
  have HXS := Lib.hid (show ∀ n ∈ X, Tr.upd σ no none n = σ0 n from fun n hn => (hup n (List.mem_append.2 (.inr hn))).trans (hX n hn).1)
  have HMV := Lib.hid (show ∀ σ' P2, Tr.Moved (Tr.upd σ no none) (L.flatMap (·.pages) ++ X) σ' P2 → Tr.Moved σ (no :: P' ++ X) σ' P2 from fun σ' P2 hm => by
    rw [← q2] at hm
    exact Tr.Moved.nil_left hm hmem hnn hndr hnno)
  have HSUM := Lib.hid (show Nd.sum true ((f L).map (·.cell)) ≤ 750 by have := hf.grow L; have : Nd.sum true (L.map (·.cell)) ≤ 488 := g5; omega)
  have HRI := Lib.hid (hf.rise L q3)
  have HLW := Lib.hid (show ∀ e ∈ f L, Nd.lt e.cell.key frm = false from fun e he => by
    rcases hf.mem L e he with h9 | h9
    · exact hlow e h9
    · rw [h9]; exact hkey)
  have HNN := Lib.hid hnn
  have H0 := Lib.hid h0
  have H1 := Lib.hid h1
  clear h hd hsz hnd hpr g3 g4 g5 g6 q2 q3 q4 hup hpw hmem hnn hX hlow h0 h1 hndr hnno
  go_enter Try.func50, Try.ntmps50
  go_wp2_with fail
  refine HLD.out.mono ?_
  rintro e w1 ⟨hb1, A, c, rfl, hown⟩
  have HN1 := Lib.hid hb1
  have HOW := Lib.hid hown
  have HDJ := Lib.hid (HD.out w1 S σ k no (hp.below HA.out hb1) HNN.out)
  clear hb1 hown
  go_wp2_with fail
  refine HDJ.out.mono ?_
  rintro e w2 ⟨rfl, S2, hat2, hof2, hfr2⟩
  have HOF2 := Lib.hid ((Off.of_below HN1.out S).trans hof2)
  have HFR2 := Lib.hid (hfr2.mono HN1.out.size)
  have hlt := HOW.out
  have hown2 : COwn w2 w.heap.size (.slice A (L.map (·.cell)).length c) (L.map (·.cell)) := hlt.off hof2 HOLD.out
  have hns2 : ∀ g, Value.ownBlock (.slice A (L.map (·.cell)).length c) = some g → g ∉ S2 := fun g hg hs => by
    have h9 := World.ownsRow.lt hlt g hg
    rcases hfr2 g hs with h8 | h8
    · have := HOLD.out g h8; omega
    · omega
  rw [List.length_map] at hown2 hns2
  have HDO := Lib.hid (hdo.does w2 S2 _ k L A c w.heap.size (H0.out.then HOF2.out H1.out) (H1.out.trans HFR2.out H0.out.size) hat2 HQ3.out HEO.out HND.out HXS.out hown2 H0.out.size hns2 HOF2.out.size hLl)
  clear hat2 hof2 hfr2 hown2 hns2 hlt
  go_wp2_with fail
  refine HDO.out.mono ?_
  rintro e w3 ⟨A', c', σ', S', U, rfl, hrow3, hmv3, heo3, hat3, hof3, hU3, hfr3⟩
  have hof : Off S w w3 := HOF2.out.then hof3 (fun g hg => by
    rcases hU3 g hg with h9 | h9
    · exact HFR2.out g h9
    · exact .inr h9)
  have HOF3 := Lib.hid hof
  have HFR3 := Lib.hid (HFR2.out.trans hfr3 HOF2.out.size)
  have HAT3 := Lib.hid hat3
  have HMV3 := Lib.hid (HMV.out σ' _ hmv3)
  have hpart : Tr.Part σ' 0 ((f L).map (·.cell)) ((f L).flatMap (·.pages)) (f L) := ⟨rfl, rfl, HRI.out, heo3⟩
  have HPP := Lib.hid (parts_any frm true ⟨A', (f L).length, c'⟩ ((f L).map (·.cell)) 0 S' w3 hrow3 (hp.old hat3) (Nat.zero_le _) hpart.right.2 HSUM.out)
  have HXS3 := Lib.hid (hpart.parts frm HLW.out hfs HSUM.out)
  clear hof3 hfr3 hat3 hmv3 heo3 hpart hrow3 hU3 hof
  go_wp2_with fail
  refine HPP.out.mono ?_
  rintro e w4 ⟨hb4, r, rfl, hpr4⟩
  obtain ⟨xs, hxs⟩ := HXS3.out
  have HEND := Lib.hid (show EditOk p S σ k 0 frm (no :: P' ++ X) (f L) w (.returned (.tuple #[.slice r.A r.n r.c, .int .i64 0])) w4 from
    ⟨r, _, xs, _, σ', S', k, rfl, hpr4, hxs, HMV3.out, hp.below HAT3.out hb4, by omega, HOF3.out.trans (Off.of_below hb4 S), HFR3.out⟩)
  clear hb4 hpr4 hxs
  go_wp2_with fail
  go_ret2
  exact HEND.out
end Go.Proofs.Ytllafbcnikoohaa
/- A tree in pages, plain: a branch one of whose kids is changed. -/
namespace Go.Proofs.Ytllafbcnikoohaa
open Go.RowKit
set_option linter.unusedVariables false
set_option linter.unusedSimpArgs false
namespace Tr
/-- Kids as they may be. -/
structure Kids (σ : Book) (d : Nat) (ks : List Kd) : Prop where
  first : ∃ k t, ks = k :: t ∧ k.key = ⟨#[]⟩
  sep : Sep (ks.map Kd.rg)
  each : ∀ k ∈ ks, k.key.size ≤ 120 ∧ Stored σ d k.no k.P k.L
theorem Kids.part {σ : Book} {d : Nat} {ks : List Kd} (h : Kids σ d ks) : Part σ (d + 1) (ks.map Kd.cell) (ks.flatMap (·.P)) (ks.flatMap (·.L)) := ⟨ks, rfl, rfl, rfl, h.first, h.sep, h.each⟩
theorem Kids.of_part {σ : Book} {d : Nat} {cs : List Ce} {P : List Nat} {L : List En} (h : Part σ (d + 1) cs P L) : ∃ ks, Kids σ d ks ∧ cs = ks.map Kd.cell ∧ P = ks.flatMap (·.P) ∧ L = ks.flatMap (·.L) := by
  obtain ⟨ks, h1, h2, h3, h4, h5, h6⟩ := h
  exact ⟨ks, ⟨h4, h5, h6⟩, h1, h2, h3⟩
theorem Kids.congr {σ σ' : Book} {d : Nat} {ks : List Kd} (h : Kids σ d ks) (hk : ∀ n ∈ ks.flatMap (·.P), σ' n = σ n) : Kids σ' d ks :=
  ⟨h.first, h.sep, fun k hkm => ⟨(h.each k hkm).1, (h.each k hkm).2.congr fun n hn => hk n (List.mem_flatMap.2 ⟨k, hkm, hn⟩)⟩⟩
theorem Kids.mem {σ : Book} {d : Nat} {ks : List Kd} (h : Kids σ d ks) : ∀ n ∈ ks.flatMap (·.P), 1 ≤ n ∧ n < 512 ∧ σ n ≠ none := h.part.mem
theorem Stored.ne {σ : Book} {d no : Nat} {P : List Nat} {L : List En} (h : Stored σ d no P L) : L ≠ [] := by obtain ⟨_, _, _, _, _, _, _, _, g, -⟩ := h; exact g
/-- What stands in the place of the kids M. -/
structure Mid (σ : Book) (d : Nat) (A M C : List Kd) (X : List Nat) (F : List En) (key : ByteArray) (σ' : Book) (ps : List Pt) (xs : List Pd) (L2 : List En) : Prop where
  head : ∃ m t, M = m :: t ∧ m.key = key
  parts : ∃ P2, Parts σ' d key ps P2 L2 xs ∧ Moved σ (M.flatMap (·.P) ++ X) σ' P2
  up : ∀ e ∈ L2, ∀ c ∈ C, Nd.lt e.cell.key c.key = true
  eq : F = A.flatMap (·.L) ++ L2 ++ C.flatMap (·.L)
  good : ∀ x ∈ xs, Good (d == 0) x.cs x.L
theorem Parts.mem {σ : Book} {d : Nat} {key : ByteArray} {ps : List Pt} {P : List Nat} {L : List En} {xs : List Pd} (h : Parts σ d key ps P L xs) : ∀ x ∈ xs, ∀ e ∈ x.L, e ∈ L := fun x hx e he => by rw [h.ents]; exact List.mem_flatMap.2 ⟨x, hx, he⟩
theorem Parts.one {σ : Book} {d : Nat} {key : ByteArray} {ps : List Pt} {P : List Nat} {L : List En} {xs : List Pd} (h : Parts σ d key ps P L xs) (h1 : xs.length = 1) : ∃ x, xs = [x] ∧ x.key = key ∧ P = x.P ∧ L = x.L ∧ ps = [⟨key, d == 0, x.cs⟩] ∧ Nd.sum (d == 0) x.cs ≤ 488 ∧ Part σ d x.cs x.P x.L := by
  obtain ⟨x, t, e, hk⟩ := h.head
  subst e
  obtain rfl : t = [] := by cases t; rfl; simp at h1
  have h2 := h.each x (by simp)
  refine ⟨x, rfl, hk, by rw [h.pages]; simp, by rw [h.ents]; simp, ?_, h2.2.1, h2.2.2⟩
  rw [h.pts, ← hk]
  rfl
/-- A part that isn't small is good. -/
theorem Part.good {σ : Book} {d : Nat} {cs : List Ce} {P : List Nat} {L : List En} (h : Part σ d cs P L) (hs : 122 ≤ Nd.sum (d == 0) cs) : Good (d == 0) cs L := by
  cases d with
  | zero =>
    obtain ⟨h1, -⟩ := h
    refine ⟨fun e => ?_, fun h => by cases h⟩
    subst e h1
    simp [Nd.sum] at hs
  | succ d =>
    obtain ⟨ks, hk, e1, e2, e3⟩ := Kids.of_part h
    obtain ⟨k, t, e, hkk⟩ := hk.first
    subst e
    refine ⟨?_, fun _ => ?_⟩
    · rw [e3, List.flatMap_cons]
      have := (hk.each k (by simp)).2.ne
      simp [this]
    · cases t with
      | nil =>
        rw [e1] at hs
        simp [Nd.sum, size_kid, hkk] at hs
        have : (⟨#[]⟩ : ByteArray).size = 0 := rfl
        omega
      | cons a t => rw [e1]; simp
theorem mid_one {σ σ1 : Book} {d : Nat} {A C : List Kd} {x : Kd} {X P1 : List Nat} {f : List En → List En} {key : ByteArray} {ps : List Pt} {xs : List Pd} (hf : IsChange key f) (hB : Kids σ d (A ++ [x] ++ C)) (hC : ∀ c ∈ C, Nd.lt key c.key = true) (hx : Nd.lt key x.key = false)
    (hp : Parts σ1 d x.key ps P1 (f x.L) xs) (hm : Moved σ (x.P ++ X) σ1 P1) (hg : ∀ y ∈ xs, Good (d == 0) y.cs y.L) : Mid σ d A [x] C X (f ((A ++ [x] ++ C).flatMap (·.L))) x.key σ1 ps xs (f x.L) := by
  have hs := hB.sep
  rw [List.map_append, List.map_append, sep_app, sep_app] at hs
  obtain ⟨⟨sA, sx, sAx⟩, sC, sxC⟩ := hs
  refine ⟨⟨x, [], rfl, rfl⟩, ⟨P1, hp, by simpa using hm⟩, ?_, ?_, hg⟩
  · intro e he c hc
    rcases hf.mem _ e he with h1 | h1
    · exact sxC x.rg (by simp) c.rg (List.mem_map_of_mem hc) e h1
    · rw [h1]; exact hC c hc
  · rw [flatMap_app, flatMap_app]
    have e1 : [x].flatMap (·.L) = x.L := by simp
    rw [e1]
    refine hf.loc _ _ _ (fun e he => ?_) (fun e he => ?_)
    · obtain ⟨a, ha, he⟩ := List.mem_flatMap.1 he
      exact lt_le (sAx a.rg (List.mem_map_of_mem ha) x.rg (by simp) e he) hx
    · obtain ⟨c, hc, he⟩ := List.mem_flatMap.1 he
      exact lt_le (hC c hc) (sC.2 c.rg (List.mem_map_of_mem hc) e he)
/-- The result when the parts are made. -/
theorem Mid.made {σ σ1 σ2 : Book} {d : Nat} {A M C ks : List Kd} {X : List Nat} {F : List En} {key : ByteArray} {ps : List Pt} {xs : List Pd} {L2 : List En} (h : Mid σ d A M C X F key σ1 ps xs L2) (hB : Kids σ d (A ++ M ++ C)) (hN : ((A ++ M ++ C).flatMap (·.P) ++ X).Nodup)
    (hk : ks.map Kd.rg = xs.map Pd.rg) (hst : ∀ k ∈ ks, Stored σ2 d k.no k.P k.L) (hmv : Moved σ1 (xs.flatMap (·.P)) σ2 (ks.flatMap (·.P))) :
    Part σ2 (d + 1) ((A ++ ks ++ C).map Kd.cell) ((A ++ ks ++ C).flatMap (·.P)) F ∧ Moved σ ((A ++ M ++ C).flatMap (·.P) ++ X) σ2 ((A ++ ks ++ C).flatMap (·.P)) ∧ Nd.sum false ((A ++ ks ++ C).map Kd.cell) ≤ Nd.sum false ((A ++ M ++ C).map Kd.cell) + 128 := by
  obtain ⟨m, tm, hM, hmk⟩ := h.head
  obtain ⟨P2, hp, hmv1⟩ := h.parts
  obtain ⟨x0, tx, hx0, hxk⟩ := hp.head
  have hmv2 : Moved σ (M.flatMap (·.P) ++ X) σ2 (ks.flatMap (·.P)) := hmv1.trans (by rw [hp.pages]; exact hmv)
  -- the kids' ranges are the parts'
  have hks0 : ∃ n0 t1, ks = n0 :: t1 ∧ n0.rg = x0.rg ∧ t1.map Kd.rg = tx.map Pd.rg := by
    rw [hx0] at hk
    cases ks with
    | nil => simp at hk
    | cons n0 t1 =>
      simp only [List.map_cons, List.cons.injEq] at hk
      exact ⟨n0, t1, rfl, hk.1, hk.2⟩
  obtain ⟨n0, t1, hks, hrg, hrt⟩ := hks0
  have hnk : n0.key = m.key := by
    have := congrArg Prod.fst hrg
    simp only [Kd.rg, Pd.rg] at this
    rw [this, hxk, hmk]
  have hlen : t1.length ≤ 1 := by
    have h1 : t1.length = tx.length := by have := congrArg List.length hrt; simpa using this
    have h2 : xs.length ≤ 2 := by
      rcases hp.count with h | h
      · omega
      · omega
    rw [hx0, List.length_cons] at h2
    omega
  have hkeys : ∀ k ∈ ks, k.key.size ≤ 120 := fun k hkm => by
    have : k.rg ∈ xs.map Pd.rg := by rw [← hk]; exact List.mem_map_of_mem hkm
    obtain ⟨y, hy, e⟩ := List.mem_map.1 this
    have e1 := congrArg Prod.fst e
    simp only [Kd.rg, Pd.rg] at e1
    rw [← e1]
    exact (hp.each y hy).1
  have hLs : ks.flatMap (·.L) = L2 := by
    have e1 : ∀ (l : List Kd), l.flatMap (·.L) = (l.map Kd.rg).flatMap (·.2) := fun l => by rw [List.flatMap_map]; rfl
    have e2 : ∀ (l : List Pd), l.flatMap (·.L) = (l.map Pd.rg).flatMap (·.2) := fun l => by rw [List.flatMap_map]; rfl
    rw [hp.ents, e1, e2, hk]
  have hsub : ∀ k ∈ ks, ∀ e ∈ k.L, e ∈ L2 := fun k hkm e he => by rw [← hLs]; exact List.mem_flatMap.2 ⟨k, hkm, he⟩
  have hmemS : ∀ n ∈ (A ++ M ++ C).flatMap (·.P), σ n ≠ none := fun n hn => (hB.mem n hn).2.2
  have hsplit : ∀ (Z : List Kd), (A ++ Z ++ C).flatMap (·.P) = A.flatMap (·.P) ++ Z.flatMap (·.P) ++ C.flatMap (·.P) := fun Z => by rw [flatMap_app, flatMap_app]
  have hN1 := hN
  rw [hsplit] at hN1 hmemS
  have hperm : (A.flatMap (·.P) ++ M.flatMap (·.P) ++ C.flatMap (·.P) ++ X).Perm ((M.flatMap (·.P) ++ X) ++ (A.flatMap (·.P) ++ C.flatMap (·.P))) := by
    have p1 : (A.flatMap (·.P) ++ M.flatMap (·.P) ++ C.flatMap (·.P) ++ X).Perm (M.flatMap (·.P) ++ A.flatMap (·.P) ++ (C.flatMap (·.P) ++ X)) := by
      rw [List.append_assoc]
      exact List.perm_append_comm.append_right _
    refine p1.trans ?_
    rw [List.append_assoc, List.append_assoc]
    refine List.Perm.append_left _ ?_
    rw [← List.append_assoc]
    exact List.perm_append_comm
  have hN2 := hperm.nodup_iff.1 hN1
  obtain ⟨-, hR, hdis⟩ := List.nodup_append.1 hN2
  have hRm : ∀ n ∈ A.flatMap (·.P) ++ C.flatMap (·.P), σ n ≠ none := fun n hn => by
    rcases List.mem_append.1 hn with hn | hn
    · exact hmemS n (by simp only [List.mem_append]; exact .inl (.inl hn))
    · exact hmemS n (by simp only [List.mem_append]; exact .inr hn)
  have hRd : ∀ n ∈ A.flatMap (·.P) ++ C.flatMap (·.P), n ∉ M.flatMap (·.P) ++ X := fun n hn hm => hdis n hm n hn rfl
  have hfr := hmv2.frame hRm hR hRd
  have hsame := hmv2.same hRm hRd
  refine ⟨?_, ?_, ?_⟩
  · have h9 := kids_replaced (σ' := σ2) (mids := ks) hB.first hB.sep hB.each hM hks hnk (by rw [hk]; exact hp.sep) (fun k hkm => ⟨hkeys k hkm, hst k hkm⟩) (fun k hkm n hn => hsame n (by
        rw [← flatMap_app]
        exact List.mem_flatMap.2 ⟨k, hkm, hn⟩)) (fun x hx e he c hc => h.up e (hsub x hx e he) c hc)
    have e9 : (A ++ ks ++ C).flatMap (·.L) = F := by rw [h.eq, flatMap_app, flatMap_app, hLs]
    rw [e9] at h9
    exact h9
  · rw [hsplit, hsplit]
    refine hfr.perm hperm.symm ?_
    rw [← List.append_assoc]
    exact List.perm_append_comm.append_right _
  · exact kids_sum hM hks hnk hlen hkeys
end Tr
end Go.Proofs.Ytllafbcnikoohaa
/- A tree in pages, plain: a small node and its neighbour. -/
namespace Go.Proofs.Ytllafbcnikoohaa
open Go.RowKit
set_option linter.unusedVariables false
set_option linter.unusedSimpArgs false
namespace Tr
theorem parts_good {σ : Book} {d : Nat} {cs : List Ce} {P : List Nat} {L : List En} (h : Part σ d cs P L) (key : ByteArray) (hk : ∀ e ∈ L, Nd.lt e.cell.key key = false) (hks : key.size ≤ 120) (hs : Nd.sum (d == 0) cs ≤ 750) (hg : Good (d == 0) cs L) :
    ∃ xs, Parts σ d key (partsL key (d == 0) cs) P L xs ∧ ∀ x ∈ xs, Good (d == 0) x.cs x.L := by
  obtain ⟨xs, hp⟩ := h.parts key hk hks hs
  refine ⟨xs, hp, ?_⟩
  rcases hp.count with h1 | ⟨-, h1⟩
  · obtain ⟨x, e, -, -, h2, h3, -, -⟩ := hp.one h1
    subst e
    intro y hy
    obtain rfl := List.mem_singleton.1 hy
    have h4 : cs = y.cs := by
      have h5 := hp.pts
      unfold partsL at h5
      split at h5
      · simp [Pd.pt] at h5; exact h5.2
      · simp at h5
    rw [← h4, ← h2]
    exact hg
  · exact h1
/-- Two neighbours' cells in their place. -/
theorem mid_core {σ σ2 : Book} {d : Nat} {A C : List Kd} {k0 k1 : Kd} {X : List Nat} {F : List En} {a b : List Ce} {Pa Pb : List Nat} {La Lb : List En} (ha : Part σ2 d a Pa La) (hb : Part σ2 d b Pb Lb) (h1 : ∀ e ∈ La, Nd.lt e.cell.key k1.key = true) (h2 : ∀ e ∈ Lb, Nd.lt e.cell.key k1.key = false)
    (hk0 : k0.key.size ≤ 120) (hk1 : k1.key.size ≤ 120) (hm : Moved σ (k0.P ++ k1.P ++ X) σ2 (Pa ++ Pb)) (hlow : ∀ e ∈ La ++ Lb, Nd.lt e.cell.key k0.key = false) (hup : ∀ e ∈ La ++ Lb, ∀ c ∈ C, Nd.lt e.cell.key c.key = true) (heq : F = A.flatMap (·.L) ++ (La ++ Lb) ++ C.flatMap (·.L))
    (hs : Nd.sum (d == 0) a + Nd.sum (d == 0) b ≤ 612) (hg : La ++ Lb ≠ []) (hg2 : (d == 0) = false → 2 ≤ a.length + b.length) :
    (∃ xs, Mid σ d A [k0, k1] C X F k0.key σ2 (partsL k0.key (d == 0) (a ++ Nd.first (d == 0) k1.key b)) xs (La ++ Lb)) ∧ Nd.sum (d == 0) (a ++ Nd.first (d == 0) k1.key b) ≤ 750 ∧ ∀ c ∈ a ++ Nd.first (d == 0) k1.key b, Nd.rightOne (d == 0) c = true := by
  have hj := ha.join hb h1 h2 hk1
  have hsum : Nd.sum (d == 0) (a ++ Nd.first (d == 0) k1.key b) ≤ 750 := by
    have e1 := Nd.sum_app (d == 0) a (Nd.first (d == 0) k1.key b)
    have e2 := Nd.sum_first (d == 0) k1.key b
    omega
  obtain ⟨xs, hx, hgx⟩ := parts_good hj k0.key hlow hk0 hsum ⟨hg, fun hd => by rw [List.length_append, Nd.first_len]; exact hg2 hd⟩
  exact ⟨⟨xs, ⟨k0, [k1], rfl, rfl⟩, ⟨_, hx, by simpa using hm⟩, hup, heq, hgx⟩, hsum, hj.right.2⟩
theorem other_kept {σ σ1 : Book} {d : Nat} {x o : Kd} {X P1 : List Nat} (hm : Moved σ (x.P ++ X) σ1 P1) (ho : Stored σ d o.no o.P o.L) (hN : (x.P ++ X ++ o.P).Nodup) :
    ∃ (ocs : List Ce) (oP : List Nat), o.P = o.no :: oP ∧ σ1 o.no = some ⟨if (d == 0) then 1 else 2, Nd.str (d == 0) ocs⟩ ∧ Part (upd σ1 o.no none) d ocs oP o.L ∧ Nd.sum (d == 0) ocs ≤ 488 ∧ o.L ≠ [] ∧ ((d == 0) = false → 2 ≤ ocs.length) ∧ (∀ n ∈ P1, n ≠ o.no) ∧ Moved σ (x.P ++ X ++ o.P) (upd σ1 o.no none) (P1 ++ oP) ∧ Nd.right (d == 0) ocs = true ∧ 0 < ocs.length := by
  obtain ⟨h1, h2, h3⟩ := List.nodup_append.1 hN
  have hmem := fun n hn => (ho.mem n hn).2.2
  have hdis : ∀ n ∈ o.P, n ∉ x.P ++ X := fun n hn hm => h3 n hm n hn rfl
  have hsame := hm.same hmem hdis
  have hfr := hm.frame hmem h2 hdis
  have ho1 := ho.congr hsame
  obtain ⟨ocs, oP, e, g1, g2, g3, g4, g5, g6, g7⟩ := ho1
  have hno : o.no ∉ P1 ++ oP := by
    have hnd := hfr.nodup
    rw [e] at hnd
    obtain ⟨q1, q2, q3⟩ := List.nodup_append.1 hnd
    intro hh
    rcases List.mem_append.1 hh with hh | hh
    · exact q3 _ hh _ (by simp) rfl
    · exact (List.nodup_cons.1 q2).1 hh
  have hkeep : ∀ n ∈ P1 ++ oP, upd σ1 o.no none n = σ1 n := fun n hn => upd_ne _ _ (fun e => hno (by rw [← e]; exact hn))
  refine ⟨ocs, oP, e, g3, g4.congr fun n hn => hkeep n (by simp [hn]), g5, g6, g7, fun n hn e => hno (by rw [← e]; simp [hn]), ?_, g4.right.1, ?_⟩
  · refine hfr.trans ?_
    have f1 := (Moved.drop σ1 o.no).frame (R := P1 ++ oP) (fun n hn => hfr.there n (by rw [e]; rcases List.mem_append.1 hn with hn | hn <;> simp [hn])) (by
      have hnd := hfr.nodup
      rw [e] at hnd
      obtain ⟨q1, q2, q3⟩ := List.nodup_append.1 hnd
      exact List.nodup_append.2 ⟨q1, (List.nodup_cons.1 q2).2, fun a ha b hb => q3 a ha b (by simp [hb])⟩) (fun n hn => by simp; rintro rfl; exact hno hn)
    refine f1.perm ?_ ?_
    · rw [e, List.singleton_append]
      exact List.perm_middle.symm
    · simp
  · cases d with
    | zero =>
      obtain ⟨q1, -⟩ := g4
      cases ocs with
      | nil => cases hL : o.L with
        | nil => exact absurd hL g6
        | cons a t => rw [hL] at q1; simp at q1
      | cons a t => simp
    | succ d => have := g7 rfl; omega
theorem kids_two {σ : Book} {d : Nat} {A C : List Kd} {k0 k1 : Kd} {X : List Nat} (hB : Kids σ d (A ++ [k0, k1] ++ C)) (hN : ((A ++ [k0, k1] ++ C).flatMap (·.P) ++ X).Nodup) :
    (k0.P ++ X ++ k1.P).Nodup ∧ (k1.P ++ X ++ k0.P).Nodup ∧ k0.key.size ≤ 120 ∧ k1.key.size ≤ 120 ∧ Stored σ d k0.no k0.P k0.L ∧ Stored σ d k1.no k1.P k1.L ∧ (∀ e ∈ k0.L, Nd.lt e.cell.key k1.key = true) ∧ (∀ e ∈ k1.L, Nd.lt e.cell.key k1.key = false) ∧ (∀ e ∈ k0.L, Nd.lt e.cell.key k0.key = false) ∧
      Nd.lt k0.key k1.key = true ∧ (∀ c ∈ C, ∀ e ∈ k0.L, Nd.lt e.cell.key c.key = true) ∧ (∀ c ∈ C, ∀ e ∈ k1.L, Nd.lt e.cell.key c.key = true) ∧ (∀ a ∈ A, ∀ e ∈ a.L, Nd.lt e.cell.key k0.key = true) ∧ (∀ c ∈ C, ∀ e ∈ c.L, Nd.lt e.cell.key c.key = false) := by
  have h0 := hB.each k0 (by simp)
  have h1 := hB.each k1 (by simp)
  have hs := hB.sep
  rw [List.map_append, List.map_append, sep_app, sep_app] at hs
  obtain ⟨⟨sA, sM, sAM⟩, sC, sMC⟩ := hs
  rw [List.map_cons, sep_cons] at sM
  obtain ⟨⟨m1, m2⟩, m3⟩ := sM
  have q01 := m1 k1.rg (by simp)
  obtain ⟨z, t, hz⟩ := List.exists_cons_of_ne_nil h0.2.ne
  have hz : z ∈ k0.L := by rw [hz]; simp
  have hp : (k0.P ++ X ++ k1.P).Nodup ∧ (k1.P ++ X ++ k0.P).Nodup := by
    have e : ((A ++ [k0, k1] ++ C).flatMap (·.P) ++ X) = A.flatMap (·.P) ++ (k0.P ++ (k1.P ++ (C.flatMap (·.P) ++ X))) := by
      simp
    rw [e] at hN
    have n1 := (List.nodup_append.1 hN).2.1
    obtain ⟨a1, a2, a3⟩ := List.nodup_append.1 n1
    obtain ⟨b1, b2, b3⟩ := List.nodup_append.1 a2
    obtain ⟨c1, c2, c3⟩ := List.nodup_append.1 b2
    constructor
    · refine List.nodup_append.2 ⟨List.nodup_append.2 ⟨a1, c2, fun a ha b hb => a3 a ha b (by simp [hb])⟩, b1, fun a ha b hb => ?_⟩
      rcases List.mem_append.1 ha with ha | ha
      · exact a3 a ha b (by simp [hb])
      · exact fun e => b3 b hb a (by simp [ha]) e.symm
    · refine List.nodup_append.2 ⟨List.nodup_append.2 ⟨b1, c2, fun a ha b hb => b3 a ha b (by simp [hb])⟩, a1, fun a ha b hb => ?_⟩
      rcases List.mem_append.1 ha with ha | ha
      · exact fun e => a3 b hb a (by simp [ha]) e.symm
      · exact fun e => a3 b hb a (by simp [ha]) e.symm
  exact ⟨hp.1, hp.2, h0.1, h1.1, h0.2, h1.2, q01, m3.2 k1.rg (by simp), m2, le_lt (m2 z hz) (q01 z hz), fun c hc e he => sMC k0.rg (by simp) c.rg (List.mem_map_of_mem hc) e he, fun c hc e he => sMC k1.rg (by simp) c.rg (List.mem_map_of_mem hc) e he,
    fun a ha e he => sAM a.rg (List.mem_map_of_mem ha) k0.rg (by simp) e he, fun c hc e he => sC.2 c.rg (List.mem_map_of_mem hc) e he⟩
/-- The small one stands on the left: the first kid. -/
theorem mid_join0 {σ σ1 : Book} {d : Nat} {C : List Kd} {k0 k1 : Kd} {X : List Nat} {f : List En → List En} {key : ByteArray} {xd : Pd} (hf : IsChange key f) (hB : Kids σ d ([] ++ [k0, k1] ++ C)) (hN : (([] ++ [k0, k1] ++ C : List Kd).flatMap (·.P) ++ X).Nodup)
    (hC : ∀ c ∈ k1 :: C, Nd.lt key c.key = true) (hx : Nd.lt key k0.key = false) (hm : Moved σ (k0.P ++ X) σ1 xd.P) (hp : Part σ1 d xd.cs xd.P (f k0.L)) (hs : Nd.sum (d == 0) xd.cs < 122) (hc : (d == 0) = false → 1 ≤ xd.cs.length) :
    ∃ ocs, σ1 k1.no = some ⟨if (d == 0) then 1 else 2, Nd.str (d == 0) ocs⟩ ∧ Nd.right (d == 0) ocs = true ∧ Nd.sum (d == 0) ocs ≤ 488 ∧ 0 < ocs.length ∧ (∃ xs, Mid σ d [] [k0, k1] C X (f (([] ++ [k0, k1] ++ C : List Kd).flatMap (·.L))) k0.key (upd σ1 k1.no none) (partsL k0.key (d == 0) (xd.cs ++ Nd.first (d == 0) k1.key ocs)) xs (f k0.L ++ k1.L)) ∧
      Nd.sum (d == 0) (xd.cs ++ Nd.first (d == 0) k1.key ocs) ≤ 750 ∧ ∀ c ∈ xd.cs ++ Nd.first (d == 0) k1.key ocs, Nd.rightOne (d == 0) c = true := by
  obtain ⟨n1, n2, s0, s1, t0, t1, q1, q2, q3, q4, q5, q6, q7, q8⟩ := kids_two hB hN
  obtain ⟨ocs, oP, e, g1, g2, g3, g4, g5, g6, g7, g8, g9⟩ := other_kept hm t1 n1
  have hpx : Part (upd σ1 k1.no none) d xd.cs xd.P (f k0.L) := hp.congr fun n hn => upd_ne _ _ (g6 n hn)
  refine ⟨ocs, g1, g8, g3, g9, ?_⟩
  refine mid_core hpx g2 (fun e he => ?_) q2 s0 s1 (g7.perm (by rw [List.append_assoc, List.append_assoc]; exact List.Perm.append_left _ List.perm_append_comm) (List.Perm.refl _)) (fun e he => ?_) (fun e he c hc9 => ?_) ?_ (by omega) (by simp [g4]) (fun hd => by have := g5 hd; omega)
  · rcases hf.mem _ e he with h | h
    · exact q1 e h
    · rw [h]; exact hC k1 (by simp)
  · rcases List.mem_append.1 he with he | he
    · rcases hf.mem _ e he with h | h
      · exact q3 e h
      · rw [h]; exact hx
    · exact le_of_lt (lt_le q4 (q2 e he))
  · rcases List.mem_append.1 he with he | he
    · rcases hf.mem _ e he with h | h
      · exact q5 c hc9 e h
      · rw [h]; exact hC c (by simp [hc9])
    · exact q6 c hc9 e he
  · have h9 := hf.loc [] k0.L (k1.L ++ C.flatMap (·.L)) (by simp) (fun e he => by
      rcases List.mem_append.1 he with he | he
      · exact lt_le (hC k1 (by simp)) (q2 e he)
      · obtain ⟨c, hc9, he⟩ := List.mem_flatMap.1 he
        exact lt_le (hC c (by simp [hc9])) (q8 c hc9 e he))
    simpa using h9
/-- The small one stands on the right. -/
theorem mid_join1 {σ σ1 : Book} {d : Nat} {A C : List Kd} {k0 k1 : Kd} {X : List Nat} {f : List En → List En} {key : ByteArray} {xd : Pd} (hf : IsChange key f) (hB : Kids σ d (A ++ [k0, k1] ++ C)) (hN : ((A ++ [k0, k1] ++ C).flatMap (·.P) ++ X).Nodup)
    (hC : ∀ c ∈ C, Nd.lt key c.key = true) (hx : Nd.lt key k1.key = false) (hm : Moved σ (k1.P ++ X) σ1 xd.P) (hp : Part σ1 d xd.cs xd.P (f k1.L)) (hs : Nd.sum (d == 0) xd.cs < 122) (hc : (d == 0) = false → 1 ≤ xd.cs.length) :
    ∃ ocs, σ1 k0.no = some ⟨if (d == 0) then 1 else 2, Nd.str (d == 0) ocs⟩ ∧ Nd.right (d == 0) ocs = true ∧ Nd.sum (d == 0) ocs ≤ 488 ∧ 0 < ocs.length ∧ (∃ xs, Mid σ d A [k0, k1] C X (f ((A ++ [k0, k1] ++ C).flatMap (·.L))) k0.key (upd σ1 k0.no none) (partsL k0.key (d == 0) (ocs ++ Nd.first (d == 0) k1.key xd.cs)) xs (k0.L ++ f k1.L)) ∧
      Nd.sum (d == 0) (ocs ++ Nd.first (d == 0) k1.key xd.cs) ≤ 750 ∧ ∀ c ∈ ocs ++ Nd.first (d == 0) k1.key xd.cs, Nd.rightOne (d == 0) c = true := by
  obtain ⟨n1, n2, s0, s1, t0, t1, q1, q2, q3, q4, q5, q6, q7, q8⟩ := kids_two hB hN
  obtain ⟨ocs, oP, e, g1, g2, g3, g4, g5, g6, g7, g8, g9⟩ := other_kept hm t0 n2
  have hpx : Part (upd σ1 k0.no none) d xd.cs xd.P (f k1.L) := hp.congr fun n hn => upd_ne _ _ (g6 n hn)
  refine ⟨ocs, g1, g8, g3, g9, ?_⟩
  refine mid_core g2 hpx q1 (fun e he => ?_) s0 s1 (g7.perm ?_ List.perm_append_comm) (fun e he => ?_) (fun e he c hc9 => ?_) ?_ (by omega) (by simp [g4]) (fun hd => by have := g5 hd; omega)
  · rcases hf.mem _ e he with h | h
    · exact q2 e h
    · rw [h]; exact hx
  · rw [List.append_assoc k0.P]
    exact List.perm_append_comm
  · rcases List.mem_append.1 he with he | he
    · exact q3 e he
    · rcases hf.mem _ e he with h | h
      · exact le_of_lt (lt_le q4 (q2 e h))
      · rw [h]; exact le_of_lt (lt_le q4 hx)
  · rcases List.mem_append.1 he with he | he
    · exact q5 c hc9 e he
    · rcases hf.mem _ e he with h | h
      · exact q6 c hc9 e h
      · rw [h]; exact hC c hc9
  · have h9 := hf.loc (A.flatMap (·.L) ++ k0.L) k1.L (C.flatMap (·.L)) (fun e he => by
      have h0 : ∀ e : En, Nd.lt e.cell.key k1.key = true → Nd.lt e.cell.key key = true := fun e h => lt_le h hx
      rcases List.mem_append.1 he with he | he
      · obtain ⟨a, ha, he⟩ := List.mem_flatMap.1 he
        exact h0 e (Nd.lt_trans (q7 a ha e he) q4)
      · exact h0 e (q1 e he)) (fun e he => by
      obtain ⟨c, hc9, he⟩ := List.mem_flatMap.1 he
      exact lt_le (hC c hc9) (q8 c hc9 e he))
    simpa using h9
end Tr
end Go.Proofs.Ytllafbcnikoohaa
