/- Merged by program: Top Alter. -/
import Derived.Test.YtllafbcnikoohaaC8
import Derived.LoopN
/- Contract: tree.top. -/
namespace Go.Proofs.Ytllafbcnikoohaa
open Go.RowKit
set_option maxRecDepth 100000
set_option linter.unusedVariables false
set_option linter.unusedSimpArgs false
/-- tree.edit at trees of any depth. -/
theorem editAt_any {p : Store} (hp : Serves p) {fc : Nat} {caps : Array Value} {w0 : World} {S0 : List Nat} {σ0 : Book} {X : List Nat} {f : List En → List En} (key : ByteArray) (hf : Tr.IsChange key f) (hfn : ∀ l, f l ≠ []) (hdo : DoSpec p fc caps w0 S0 σ0 X f) : ∀ d, EditAt p fc caps w0 S0 σ0 X f key d
  | 0 => editAt_leaf hp key hf hdo
  | d + 1 => editAt_branch hp key hf hfn d (editAt_any hp key hf hfn hdo d)
/-- One part that stands at the top. -/
def TopWay (p : Store) (S : List Nat) (σ : Book) (k : Nat) (P : List Nat) (L : List En) (w : World) (v : Value) (w' : World) : Prop :=
  ∃ (r : Rw) (d : Nat) (cs : List Ce) (P' : List Nat) (σ' : Book) (S' : List Nat) (k' : Nat), v = .slice r.A r.n r.c ∧ PRow w' (Cl 0 S') r [⟨⟨#[]⟩, d == 0, cs⟩] ∧ Tr.Part σ' d cs P' L ∧ Nd.sum (d == 0) cs ≤ 488 ∧ Tr.Moved σ P σ' P' ∧ p.At w' S' σ' k' ∧ k ≤ k' + 2 ∧ Off S w w' ∧ Fresh w S S'
/-- A tree's root is told. -/
def RootWay (p : Store) (S : List Nat) (σ : Book) (k c : Nat) (Q : List Nat) (L : List En) (w : World) (e : Ending) (w' : World) : Prop :=
  (∃ (root : Nat) (P' : List Nat) (σ' : Book) (S' : List Nat) (k' : Nat), e = .returned (.tuple #[.int .i64 root, .int .i64 0]) ∧ Tr.Root σ' root P' L ∧ Tr.Moved σ Q σ' P' ∧ p.At w' S' σ' k' ∧ k ≤ k' + c ∧ Off S w w' ∧ Fresh w S S') ∨ Full p S w w' e (.returned (.tuple #[.int .i64 0, .int .i64 9]))
set_option maxHeartbeats 16000000 in
theorem top_any {p : Store} (hp : Serves p) {w : World} {S : List Nat} {σ : Book} {k : Nat} (h : p.At w S σ k) {d : Nat} {ps : List Pt} {P : List Nat} {L : List En} {xs : List Tr.Pd} {r : Rw} (hps : Tr.Parts σ d ⟨#[]⟩ ps P L xs) (hP : P.Nodup) (hr : PRow w (Cl 0 S) r ps) (hk : p.F ∨ 4 ≤ k) :
    Calls Try.prog 48 #[.iface p.T p.v, .slice r.A r.n r.c] w (RootWay p S σ k 4 P L w) := by
  obtain ⟨A, n, cap⟩ := r
  have hr0 := hr
  obtain ⟨h1, h2, h3, -⟩ := hr0
  simp only at h1 h2 h3 ⊢
  have hpl : ps.length = xs.length := by rw [hps.pts, List.length_map]
  rw [hpl] at h1
  subst h1
  have hcm : cap ≤ 9223372036854775807 := by unfold maxLen at h3; omega
  have HPS := Lib.hid hps
  have HR := Lib.hid hr
  have HA := Lib.hid h
  have HK := Lib.hid hk
  have HP := Lib.hid hP
  have HPL := Lib.hid hpl
  clear hps hr h hk h3 hP hpl
  go_enter Try.func48, Try.ntmps48
  go_upto_block 0 with fail
  go_cut [1] (fun v wx => TopWay p S σ k P L w v wx)
  case first =>
    have hcnt : (xs.length = 1 ∧ decide ((1 : Int) < (xs.length : Int)) = false) ∨ (xs.length = 2 ∧ decide ((1 : Int) < (xs.length : Int)) = true) := by
      rcases HPS.out.count with h | h
      · exact .inl ⟨h, decide_eq_false (by omega)⟩
      · exact .inr ⟨h.1, decide_eq_true (by omega)⟩
    rcases hcnt with ⟨hc, z1⟩ | ⟨hc, z1⟩
    · obtain ⟨x, hx, hxk, hxP, hxL, hxp, hxs, hxpart⟩ := HPS.out.one hc
      have HW := Lib.hid (show TopWay p S σ k P L w (.slice A xs.length cap) w from ⟨⟨A, xs.length, cap⟩, d, x.cs, x.P, σ, S, k, rfl, by rw [← hxp]; exact HR.out, by rw [hxL]; exact hxpart, hxs, by rw [← hxP]; exact Tr.Moved.refl (fun n hn => by rw [hxP] at hn; exact (hxpart.mem n hn).2.2) HP.out, HA.out, by omega, Off.refl _ _, Fresh.refl _ _⟩)
      clear hc hx hxk hxP hxL hxp hxs hxpart
      go_wp2_with fail
      refine wp_loop_rounds 1 ?_
      rw [rounds_succ]
      go_wp2_with fail
      go_meet
      exact HW.out
    · have hg : ∀ x ∈ xs, Tr.Good (d == 0) x.cs x.L := by
        rcases HPS.out.count with h | h
        · omega
        · exact h.2
      have hpr := HR.out
      rw [HPS.out.pts] at hpr
      have hN : (xs.flatMap (·.P)).Nodup := by rw [← HPS.out.pages]; exact HP.out
      have HMD := Lib.hid (made_any hp HA.out hN (fun x hx => ⟨(HPS.out.each x hx).2.2, (HPS.out.each x hx).2.1, hg x hx⟩) hpr (Nat.zero_le _) (HK.out.imp id (fun _ => by omega)) (by omega))
      have HC := Lib.hid hc
      have hxl : 0 < xs.length := by omega
      clear hc hg hpr hN
      go_wp2_with fail
      refine wp_loop_rounds 2 ?_
      rw [rounds_succ]
      go_wp2_with fail
      refine HMD.out.mono ?_
      rintro e w6 (⟨A', c', ks', σ', rfl, hown6, hrg, hst6, hmv6, S6, hat6, hof6, hfr6, hns6⟩ | ⟨hF, rfl, σ', S6, hat6, hof6, hfr6⟩)
      · have hksl : ks'.length = 2 := by
          have := congrArg List.length hrg
          rw [List.length_map, List.length_map, HC.out] at this
          exact this
        obtain ⟨g6, rfl, hg6a, hg6b, -, hg6c, hg6d⟩ := hown6.full (by rw [List.length_map]; omega)
        have hrowM := hown6.here (hns6 g6 rfl)
        obtain ⟨x0, t0, hx0, hxk⟩ := HPS.out.head
        have hkids : Tr.Kids σ' d ks' := by
          refine ⟨?_, by rw [hrg]; exact HPS.out.sep, fun k0 hk0 => ⟨?_, hst6 k0 hk0⟩⟩
          · cases ks' with
            | nil => simp at hksl
            | cons k0 t =>
              refine ⟨k0, t, rfl, ?_⟩
              rw [hx0] at hrg
              simp only [List.map_cons, List.cons.injEq] at hrg
              have := congrArg Prod.fst hrg.1
              simp only [Kd.rg, Tr.Pd.rg] at this
              rw [this, hxk]
          · have : k0.rg ∈ xs.map Tr.Pd.rg := by rw [← hrg]; exact List.mem_map_of_mem hk0
            obtain ⟨y, hy, e⟩ := List.mem_map.1 this
            have e1 := congrArg Prod.fst e
            simp only [Kd.rg, Tr.Pd.rg] at e1
            rw [← e1]
            exact (HPS.out.each y hy).1
        have hLs : ks'.flatMap (·.L) = L := by
          have e1 : ∀ (l : List Kd), l.flatMap (·.L) = (l.map Kd.rg).flatMap (·.2) := fun l => by rw [List.flatMap_map]; rfl
          have e2 : ∀ (l : List Tr.Pd), l.flatMap (·.L) = (l.map Tr.Pd.rg).flatMap (·.2) := fun l => by rw [List.flatMap_map]; rfl
          rw [HPS.out.ents, e1, e2, hrg]
        have hpart : Tr.Part σ' (d + 1) (ks'.map Kd.cell) (ks'.flatMap (·.P)) L := by have := hkids.part; rwa [hLs] at this
        have hsum : Nd.sum false (ks'.map Kd.cell) ≤ 488 := by
          obtain ⟨a, b, e⟩ : ∃ a b, ks' = [a, b] := by
            match ks', hksl with
            | [a, b], _ => exact ⟨a, b, rfl⟩
          have h1 := (hkids.each a (by rw [e]; simp)).1
          have h2 := (hkids.each b (by rw [e]; simp)).1
          rw [e]
          simp [Nd.sum, Tr.size_kid]
          omega
        have HPO := Lib.hid (parts_one ⟨#[]⟩ false ⟨some ⟨g6, 0, none⟩, ks'.length, c'⟩ (ks'.map Kd.cell) (Cl 0 S6) w6 hrowM hpart.right.2 hsum)
        have HROW := Lib.hid hrowM
        have HW := Lib.hid (show ∀ (g : Nat) (w8 : World), Below w6.heap.size w6 w8 → w6.heap.size ≤ g → Bk w8 g 121 #[.string ⟨#[]⟩, .bool false, .slice (some ⟨g6, 0, none⟩) ks'.length c'] → TopWay p S σ k P L w (.slice (some ⟨g, 0, none⟩) 1 1) w8 from fun g w8 hb8 hg8 hk8 =>
          ⟨⟨some ⟨g, 0, none⟩, 1, 1⟩, d + 1, ks'.map Kd.cell, _, σ', S6, _, rfl, PRow.lit (x := ⟨⟨#[]⟩, d + 1 == 0, ks'.map Kd.cell⟩) (q := ⟨some ⟨g6, 0, none⟩, ks'.length, c'⟩) hk8 ⟨Nat.zero_le _, fun hh => by have := hp.old hat6 g hh; omega⟩ (hrowM.below hb8), hpart, hsum, by rw [HPS.out.pages]; exact hmv6, hp.below hat6 hb8, by rw [HC.out]; omega, hof6.trans (Off.of_below hb8 S), hfr6⟩)
        have HKL := Lib.hid hksl
        clear hrowM hpart hsum hLs hkids hx0 hxk hown6 hrg hst6 hmv6 hat6 hof6 hfr6 hns6 hksl hg6d
        go_wp2_with fail
        refine HPO.out.mono ?_
        rintro e w8 ⟨hb8, g8, hg8, rfl, hk8⟩
        have HW8 := Lib.hid (HW.out g8 w8 hb8 hg8 hk8)
        clear hb8 hg8 hk8
        go_wp2_with fail
        rw [rounds_succ]
        go_wp2_with fail
        go_meet
        exact HW8.out
      · have HEND := Lib.hid (show RootWay p S σ k 4 P L w (.returned (.tuple #[.int .i64 0, .int .i64 9])) w6 from .inr ⟨hF, rfl, σ', S6, hat6, hof6, hfr6⟩)
        clear hat6 hof6 hfr6
        go_wp2_with fail
        go_ret2
        exact HEND.out
  case rest =>
    obtain ⟨r1, d1, cs, P1, σ1, S1, k1, rfl, hpr, hpart, hsum, hmv, hat, hk1, hof, hfr⟩ := hcut
    obtain ⟨rA, rn, rc⟩ := r1
    obtain ⟨bp, op, hAp, hSp, qp, p0, p1, p2, hpc⟩ := hpr.at 0 (by simp)
    simp only at hAp
    subst hAp
    simp only [List.getElem_cons_zero, Nat.zero_mul, Nat.add_zero] at p0 p1 p2 hpc
    have hrn : rn = 1 := hpr.1
    subst hrn
    have hrcm : rc ≤ 9223372036854775807 := by have h := hpr.2.2.1; simp only at h; unfold maxLen at h; omega
    have hrc1 : 1 ≤ rc := hpr.2.1
    have hbp := hSp.2
    have hqn : qp.n = cs.length := hpc.1
    have hqm : qp.c ≤ 9223372036854775807 := by have h := hpc.2.2.1; unfold maxLen at h; omega
    have hqc := hpc.2.1
    have hcl : cs.length ≤ 1000 := by have := Nd.sum_ge (d1 == 0) cs; omega
    have hways : (cs = [] ∧ d1 = 0) ∨ (∃ d2, d1 = d2 + 1 ∧ cs.length = 1) ∨ Tr.Good (d1 == 0) cs L := by
      cases d1 with
      | zero =>
        obtain ⟨e1, -⟩ := hpart
        cases L with
        | nil => exact .inl ⟨e1, rfl⟩
        | cons a t => exact .inr (.inr ⟨List.cons_ne_nil _ _, fun h => by cases h⟩)
      | succ d2 =>
        obtain ⟨ks, hB, e1, e2, e3⟩ := Tr.Kids.of_part hpart
        obtain ⟨k0, t, e4, -⟩ := hB.first
        subst e4
        cases t with
        | nil => exact .inr (.inl ⟨d2, rfl, by rw [e1]; rfl⟩)
        | cons a t =>
          refine .inr (.inr ⟨?_, fun _ => by rw [e1]; simp⟩)
          rw [e3, List.flatMap_cons]
          have := (hB.each k0 (by simp)).2.ne
          simp [this]
    obtain ⟨qA, qn, qc⟩ := qp
    simp only at hqn hqm hqc p2
    subst hqn
    rcases hways with ⟨rfl, rfl⟩ | ⟨d2, rfl, hc1⟩ | hg
    · obtain ⟨e1, e2, -⟩ := hpart
      have hL : L = [] := by simpa using e1.symm
      subst hL
      have hP1 : P1 = [] := by simpa using e2
      subst hP1
      have HE := Lib.hid (show RootWay p S σ k 4 P [] w (.returned (.tuple #[.int .i64 0, .int .i64 0])) (wc.alloc (.cells #[.string ⟨#[]⟩, .bool true, .slice qA 0 qc] 121)) from
        .inl ⟨0, [], σ1, S1, k1, rfl, .inl ⟨rfl, rfl, rfl⟩, hmv, hp.below hat ((Below.refl _ _).alloc (Nat.le_refl _) _), by omega, hof.alloc _, hfr⟩)
      clear hpr hpc e1 e2 hmv hat hof hfr
      go_wp2_with fail
      go_ret2
      exact HE.out
    · obtain ⟨ks, hB, e1, e2, e3⟩ := Tr.Kids.of_part hpart
      obtain ⟨k0, t, e4, -⟩ := hB.first
      subst e4
      have ht : t = [] := by
        rw [e1] at hc1
        cases t with
        | nil => rfl
        | cons a t => simp at hc1
      subst ht
      have hst := (hB.each k0 (by simp)).2
      obtain ⟨b3, o3, c3, hq3, hb3, -, -⟩ := hpc.some (by omega)
      injection hq3 with hq3 hq4 hq5
      subst hq3 hq5
      have hkc := kid_cell (ks := [k0]) (by rw [← e1]; exact hpc) 0 (by simp)
      simp only [Nat.zero_mul, Nat.add_zero, List.getElem_cons_zero] at hkc
      have u4 := hkc.2
      have e2' : P1 = k0.P := by rw [e2]; simp
      have e3' : L = k0.L := by rw [e3]; simp
      have HE := Lib.hid (show RootWay p S σ k 4 P L w (.returned (.tuple #[.int .i64 k0.no, .int .i64 0])) (wc.alloc (.cells #[.string ⟨#[]⟩, .bool false, .slice (some ⟨b3, o3, none⟩) cs.length qc] 121)) from
        .inl ⟨k0.no, k0.P, σ1, S1, k1, rfl, .inr ⟨d2, by rw [e3']; exact hst⟩, by rw [← e2']; exact hmv, hp.below hat ((Below.refl _ _).alloc (Nat.le_refl _) _), by omega, hof.alloc _, hfr⟩)
      have z1 : ((cs.length : Int) == 0) = false := by rw [hc1]; rfl
      have z2 : ((cs.length : Int) == 1) = true := by rw [hc1]; rfl
      have z3 : (cs.length == 0) = false := by rw [hc1]; rfl
      have z4 : (cs.length == 1) = true := by rw [hc1]; rfl
      have hcl0 : 0 < cs.length := by omega
      clear hpr hpc hmv hat hof hfr hB hst hkc hc1 hpart e1 e2 e3 e2' e3'
      go_wp2_with fail
      go_ret2
      exact HE.out
    · have hN : ([(⟨⟨#[]⟩, cs, P1, L⟩ : Tr.Pd)].flatMap (·.P)).Nodup := by simpa using hmv.nodup
      have hba : Below wc.heap.size wc (wc.alloc (.cells #[.string ⟨#[]⟩, .bool (d1 == 0), .slice qA cs.length qc] 121)) := (Below.refl _ _).alloc (Nat.le_refl _) _
      have HMD := Lib.hid (made_any hp (hp.below hat hba) (d := d1) (xs := [⟨⟨#[]⟩, cs, P1, L⟩]) (r := ⟨some ⟨bp, op, none⟩, 1, rc⟩) hN (fun x hx => by
        obtain rfl := List.mem_singleton.1 hx
        exact ⟨hpart, hsum, hg⟩) (hpr.below hba) (Nat.zero_le _) (HK.out.imp id (fun _ => by show 1 ≤ k1; omega)) (by simp))
      have hc0 : 0 < cs.length := by
        cases d1 with
        | zero =>
          obtain ⟨e1, -⟩ := hpart
          cases hL : L with
          | nil => exact absurd hL hg.1
          | cons a t => rw [e1, hL]; simp
        | succ d => have := hg.2 rfl; omega
      have z1 : ((cs.length : Int) == 0) = false := by rw [beq_eq_false_iff_ne]; omega
      have z3 : (cs.length == 0) = false := by rw [beq_eq_false_iff_ne]; omega
      obtain ⟨leaf, hleaf⟩ : ∃ leaf, leaf = (d1 == 0) := ⟨_, rfl⟩
      have hway : leaf = true ∨ (leaf = false ∧ ((cs.length : Int) == 1) = false ∧ (cs.length == 1) = false) := by
        cases hl : leaf with
        | true => exact .inl rfl
        | false =>
          have := hg.2 (by rw [← hleaf, hl])
          exact .inr ⟨rfl, by rw [beq_eq_false_iff_ne]; omega, by rw [beq_eq_false_iff_ne]; omega⟩
      rw [← hleaf] at p1 HMD
      have HST := Lib.hid (show Tr.Moved σ P σ1 P1 ∧ k ≤ k1 + 2 ∧ Off S w wc ∧ Fresh w S S1 from ⟨hmv, hk1, hof, hfr⟩)
      have HOB := Lib.hid (show ∀ b, Off S w (wc.alloc (.cells #[.string ⟨#[]⟩, .bool b, .slice qA cs.length qc] 121)) from fun b => hof.alloc _)
      clear hpr hpc hmv hat hof hfr hpart hsum hg hN hba hleaf
      rcases hway with rfl | ⟨rfl, z5, z6⟩
      all_goals
        go_wp2_with fail
        refine HMD.out.mono ?_
        rintro e w6 (⟨A', c', ks', σ', rfl, hown6, hrg, hst6, hmv6, S6, hat6, hof6, hfr6, hns6⟩ | ⟨hF, rfl, σ', S6, hat6, hof6, hfr6⟩)
        · obtain ⟨k0, rfl⟩ : ∃ k0, ks' = [k0] := by
            have := congrArg List.length hrg
            simp at this
            match ks', this with
            | [a], _ => exact ⟨a, rfl⟩
          obtain ⟨g6, rfl, hg6a, hg6b, -, hg6c, hg6d⟩ := hown6.full (by simp)
          have hkc := kid_cell (ks := [k0]) hown6.as 0 (by simp)
          simp only [Nat.zero_mul, Nat.add_zero, Nat.zero_add, List.getElem_cons_zero] at hkc
          have u4 := hkc.2
          have hL0 : k0.L = L := by
            simp only [List.map_cons, List.map_nil, List.cons.injEq, and_true] at hrg
            have := congrArg Prod.snd hrg
            exact this
          have hst0 := hst6 k0 (by simp)
          rw [hL0] at hst0
          have hmv0 : Tr.Moved σ P σ' k0.P := HST.out.1.trans (by simpa using hmv6)
          have hcm6 : c' ≤ 9223372036854775807 := by unfold maxLen at hg6d; omega
          have hcc6 : 1 ≤ c' := hg6c
          have HE := Lib.hid (show RootWay p S σ k 4 P L w (.returned (.tuple #[.int .i64 k0.no, .int .i64 0])) w6 from
            .inl ⟨k0.no, k0.P, σ', S6, _, rfl, .inr ⟨d1, hst0⟩, hmv0, hat6, by have := HST.out.2.1; simp; omega, (HOB.out _).then hof6 HST.out.2.2.2, HST.out.2.2.2.trans hfr6 (HOB.out _).size⟩)
          clear hown6 hrg hst6 hmv6 hat6 hof6 hfr6 hns6 hkc hst0 hmv0 hL0 hg6d
          go_wp2_with fail
          go_ret2
          exact HE.out
        · have HE := Lib.hid (show RootWay p S σ k 4 P L w (.returned (.tuple #[.int .i64 0, .int .i64 9])) w6 from
            .inr ⟨hF, rfl, σ', S6, hat6, (HOB.out _).then hof6 HST.out.2.2.2, HST.out.2.2.2.trans hfr6 (HOB.out _).size⟩)
          clear hat6 hof6 hfr6
          go_wp2_with fail
          go_ret2
          exact HE.out
end Go.Proofs.Ytllafbcnikoohaa
/- Contract: tree.alter. -/
namespace Go.Proofs.Ytllafbcnikoohaa
open Go.RowKit
set_option maxRecDepth 100000
set_option linter.unusedVariables false
set_option linter.unusedSimpArgs false
theorem RootWay.from {p : Store} {S S1 : List Nat} {σ σ1 : Book} {k k1 c c1 : Nat} {Q P1 : List Nat} {L : List En} {w w1 : World} {e : Ending} {w' : World} (hm : Tr.Moved σ Q σ1 P1) (hk : k ≤ k1 + c1) (ho : Off S w w1) (hf : Fresh w S S1) (h : RootWay p S1 σ1 k1 c P1 L w1 e w') : RootWay p S σ k (c1 + c) Q L w e w' := by
  rcases h with ⟨root, P', σ', S', k', rfl, h1, h2, h3, h4, h5, h6⟩ | ⟨hF, rfl, σ', S', h1, h2, h3⟩
  · exact .inl ⟨root, P', σ', S', k', rfl, h1, hm.trans h2, h3, by omega, ho.then h5 hf, hf.trans h6 ho.size⟩
  · exact .inr ⟨hF, rfl, σ', S', h1, ho.then h2 hf, hf.trans h3 ho.size⟩
theorem RootWay.letters {p : Store} {S : List Nat} {σ : Book} {k c : Nat} {Q : List Nat} {L : List En} {w : World} {e : Ending} {w' : World} (h : RootWay p S σ k c Q L w e w') : ∃ a b : Int, e = .returned (.tuple #[.int .i64 a, .int .i64 b]) ∧ Hid (RootWay p S σ k c Q L w (.returned (.tuple #[.int .i64 a, .int .i64 b])) w') := by
  rcases h with ⟨root, P', σ', S', k', rfl, h1⟩ | ⟨hF, rfl, h1⟩
  · exact ⟨root, 0, rfl, Lib.hid (.inl ⟨root, P', σ', S', k', rfl, h1⟩)⟩
  · exact ⟨0, 9, rfl, Lib.hid (.inr ⟨hF, rfl, h1⟩)⟩
theorem RootWay.more {p : Store} {S : List Nat} {σ : Book} {k c c' : Nat} {Q : List Nat} {L : List En} {w : World} {e : Ending} {w' : World} (h : RootWay p S σ k c Q L w e w') (hc : c ≤ c') : RootWay p S σ k c' Q L w e w' := by
  rcases h with ⟨root, P', σ', S', k', h0, h1, h2, h3, h4, h5⟩ | h
  · exact .inl ⟨root, P', σ', S', k', h0, h1, h2, h3, by omega, h5⟩
  · exact .inr h
set_option maxHeartbeats 16000000 in
theorem alter_any {p : Store} (hp : Serves p) {fc : Nat} {caps : Array Value} {w0 : World} {S0 : List Nat} {σ0 : Book} {X : List Nat} {f : List En → List En} (key : ByteArray) (hf : Tr.IsChange key f) (hfn : ∀ l, f l ≠ []) (hdo : DoSpec p fc caps w0 S0 σ0 X f)
    {w : World} {S : List Nat} {σ : Book} {k : Nat} (h : p.At w S σ k) (h0 : Off S0 w0 w) (h1 : Fresh w0 S0 S) (root : Nat) {P : List Nat} {L : List En} (hrt : Tr.Root σ root P L) (hnd : (P ++ X).Nodup) (hX : ∀ n ∈ X, σ n = σ0 n ∧ σ n ≠ none) (hk : p.F ∨ 20 ≤ k) :
    Calls Try.prog 38 #[.iface p.T p.v, .int .i64 root, .string key, .func (.func fc) #[] caps] w (RootWay p S σ k 20 (P ++ X) (f L) w) := by
  have he := hdo.enter
  rcases hrt with ⟨rfl, rfl, rfl⟩ | ⟨d, hst⟩
  · have hDO := hdo.does w S σ k [] none 0 w.heap.size h0 h1 h List.Pairwise.nil (by simp) (by simpa using hnd) (fun n hn => (hX n hn).1) (World.ownsRow_nil _ _ _ _) h0.size (by intro g hg; cases hg) (Nat.le_refl _) (by simp)
    simp only [List.length_nil] at hDO
    have HDO := Lib.hid hDO
    have hri := hf.rise [] List.Pairwise.nil
    have hgr := hf.grow []
    have HRI := Lib.hid hri
    have hsum : Nd.sum true ((f []).map (·.cell)) ≤ 488 := by simp [Nd.sum] at hgr ⊢; omega
    have HSUM := Lib.hid hsum
    have HK := Lib.hid hk
    have HOLD := Lib.hid (hp.old h)
    clear hDO hri hgr hsum h h0 h1 hnd hX hk hdo
    go_enter Try.func38, Try.ntmps38
    go_wp2_with fail
    refine HDO.out.mono ?_
    rintro e w3 ⟨A', c', σ', S', U, rfl, hrow3, hmv3, heo3, hat3, hof3, hU3, hfr3⟩
    have hof : Off S w w3 := hof3.mono hU3
    have hpart : Tr.Part σ' 0 ((f []).map (·.cell)) ((f []).flatMap (·.pages)) (f []) := ⟨rfl, rfl, HRI.out, heo3⟩
    obtain ⟨xs, hxs⟩ := hpart.parts ⟨#[]⟩ (fun e _ => Tr.le_nil _) (by show (0 : Nat) ≤ 120; omega) (Nat.le_trans HSUM.out (by omega))
    have HPP := Lib.hid (parts_any ⟨#[]⟩ true ⟨A', (f []).length, c'⟩ ((f []).map (·.cell)) 0 S' w3 hrow3 (hp.old hat3) (Nat.zero_le _) hpart.right.2 (Nat.le_trans HSUM.out (by omega)))
    have hP := hmv3.nodup
    have HXS := Lib.hid hxs
    have HP := Lib.hid hP
    have HAT3 := Lib.hid hat3
    have HMV := Lib.hid (show Tr.Moved σ ([] ++ X) σ' ((f []).flatMap (·.pages)) ∧ Off S w w3 ∧ Fresh w S S' from ⟨by simpa using hmv3, hof, hfr3⟩)
    clear hrow3 hmv3 heo3 hat3 hof3 hU3 hfr3 hof hpart hxs hP
    go_wp2_with fail
    refine HPP.out.mono ?_
    rintro e w4 ⟨hb4, r, rfl, hpr4⟩
    have HTOP := Lib.hid ((top_any hp (hp.below HAT3.out hb4) HXS.out HP.out hpr4 (HK.out.imp id (fun _ => by omega))).mono fun e w' h => RootWay.letters h)
    have HB4 := Lib.hid hb4
    clear hb4 hpr4
    go_wp2_with fail
    refine HTOP.out.mono ?_
    rintro e w5 ⟨a, b, rfl, hw5⟩
    have HE := Lib.hid ((RootWay.from HMV.out.1 (Nat.le_add_right k 0) (HMV.out.2.1.trans (Off.of_below HB4.out S)) HMV.out.2.2 hw5.out).more (c' := 20) (by omega))
    clear hw5
    go_wp2_with fail
    go_ret2
    exact HE.out
  · have hd : d ≤ 8 := hst.low (List.nodup_append.1 hnd).1
    have hno := hst
    obtain ⟨cs, P', rfl, g1, g2, -⟩ := hno
    have hED := editAt_any hp key hf hfn hdo d w S σ k root ⟨#[]⟩ 1 _ L h h0 h1 hst hnd hX (fun e _ => Tr.le_nil _) (Tr.le_nil _) (by show (0 : Nat) ≤ 120; omega) (by omega) (hk.imp id (fun _ => by omega))
    have HED := Lib.hid (show Calls Try.prog 50 #[.iface p.T p.v, .int .i64 root, .string ⟨#[]⟩, .string key, .func (.func fc) #[] caps, .int .i64 1] w (EditTells p S σ k d ⟨#[]⟩ (root :: P' ++ X) (f L) w) from hED)
    have z1 : ((root : Int) == 0) = false := by rw [beq_eq_false_iff_ne]; omega
    have z2 : (root == 0) = false := by rw [beq_eq_false_iff_ne]; omega
    have HK := Lib.hid hk
    clear hED h h0 h1 hst hnd hX hk hdo
    go_enter Try.func38, Try.ntmps38
    go_wp2_with fail
    refine HED.out.mono ?_
    rintro e w3 ⟨⟨rA, rn, rc⟩, b, rfl, hw3⟩
    rcases hw3.out with ⟨rfl, ps, xs, P1, σ1, S3, k3, hpr3, hps3, hmv3, hat3, hk3, hof3, hfr3⟩ | ⟨hF, rfl, rfl, rfl, rfl, σ3, hst3⟩
    · have HTOP := Lib.hid ((top_any hp hat3 hps3 hmv3.nodup hpr3 (HK.out.imp id (fun _ => by omega))).mono fun e w' h => RootWay.letters h)
      have HM := Lib.hid (show Tr.Moved σ (root :: P' ++ X) σ1 P1 ∧ k ≤ k3 + 2 * d ∧ Off S w w3 ∧ Fresh w S S3 from ⟨hmv3, hk3, hof3, hfr3⟩)
      clear hw3 hpr3 hps3 hmv3 hat3 hk3 hof3 hfr3
      go_wp2_with fail
      refine HTOP.out.mono ?_
      rintro e w5 ⟨a, b, rfl, hw5⟩
      have HE := Lib.hid ((RootWay.from HM.out.1 HM.out.2.1 HM.out.2.2.1 HM.out.2.2.2 hw5.out).more (c' := 20) (by omega))
      clear hw5
      go_wp2_with fail
      go_ret2
      exact HE.out
    · have HE := Lib.hid (show RootWay p S σ k 20 (root :: P' ++ X) (f L) w (.returned (.tuple #[.int .i64 0, .int .i64 9])) w3 from .inr ⟨hF, rfl, σ3, hst3⟩)
      clear hst3 hw3
      go_wp2_with fail
      go_ret2
      exact HE.out
end Go.Proofs.Ytllafbcnikoohaa
