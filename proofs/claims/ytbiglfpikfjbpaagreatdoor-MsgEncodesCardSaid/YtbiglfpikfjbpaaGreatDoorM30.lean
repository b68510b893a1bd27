import Derived.Test.YtbiglfpikfjbpaaGreatDoorM17
import Derived.Test.YtbiglfpikfjbpaaGreatDoorM27
import Derived.Test.YtbiglfpikfjbpaaGreatDoorM29
import Derived.Test.YtbiglfpikfjbpaaGreatDoorM19
import Derived.Deep.CutBlock
import Derived.OrdersHeld
namespace Go.Proofs.YtbiglfpikfjbpaaGreatDoor
open Go.RowKit
set_option maxRecDepth 100000
set_option linter.unusedVariables false
set_option linter.unusedSimpArgs false
set_option maxHeartbeats 40000000
theorem same_only (M : Ms) (m : MC) (S : Nat -> Prop) (w : World) (h : MsAt w S M m) (hk : aM M.op = true) : Calls Tryz.prog 12 #[.agg m.cells,.agg m.only.cells] w (aq M.lens.bare.empty w):=by
 have ho:=h.only hk
 cases he : M.lens.bare.empty with
 | true =>
  rw [M.only_eq hk he] at ho
  exact same_msg M m m.only S S w h ho
 | false =>
  refine same_ne M M.only m m.only S S w h ho (M.only_rows hk) (M.only_id) (M.only_op) fun e => ?_
  have:=M.only_lens hk e
  rw [he] at this
  cases this
theorem MsAt.op {w : World} {S : Nat -> Prop} {M : Ms} {m : MC} (h : MsAt w S M m) : m.op = M.op:=by
 obtain ⟨f,at',li,mo,de,co,rfl,-⟩:=h
 rfl
theorem ch {P : Program} (ev : Operand -> Value) (o : Oper) (ty : TypeId) (x : Operand) {w : World} {g : Nat} {t : TypeId} {cs : Array Value} {fr : Nat × Nat} {d : TypeDesc} (ho : o.op = .load ty x) (hx : ev x = .pointer (some ⟨g,0,none⟩)) (hg : w.heap[g]? = some (.cells cs t fr))
  (hu : P.underlying ty = some d) (hd : (match d with | .struct _ | .array _ _ => true | _ => false) = true) (hi : (P.info? ty).map (·.size) = some cs.size) : (execOp ev o).run P w = .ok (.value (.agg cs)) w:=by
 unfold execOp
 simp only [ho,hx,Instr.loadAt,Instr.sureAddr,Sem.run_bind,Sem.run_pure,Result.andThen_ok,run_loadVar_row w g t ty cs fr d hg hu hd hi]
theorem rright_any (M : Ms) (m : MC) (S : Nat -> Prop) (w : World) (h : MsAt w S M m) : Calls Tryz.prog 10 #[.agg m.cells] w (aq M.rright w):=by
 have HSM:=aa aT
 have HMS:=aa h
 have hkeep : ∀ W,Below w.heap.size w W -> MsAt W S M m:=fun W hb => h.keep hb.size (fun x _ hlt => hb.block x hlt) (fun _ h _ => h)
 have HKEEP:=aa hkeep
 obtain ⟨f,at',li,mo,de,co,hm,-,hfl,hat,hli,hmo,hde,hco⟩:=h
 obtain ⟨⟨oA,on,oc⟩,hov⟩ : ∃ r,r = co:=⟨_,rfl⟩
 obtain ⟨⟨uA,un,uc⟩,huv⟩ : ∃ r,r = mo:=⟨_,rfl⟩
 rw [<- hov] at hm hco
 rw [<- huv] at hm hmo
 obtain ⟨hm1,hm2,hm3,hm4⟩:=hco
 obtain ⟨hu1,hu2,hu3,hu4⟩:=hmo
 simp only at hm1 hm2 hm3 hm4 hu1 hu2 hu3 hu4
 subst hm1 hu1
 have hden : de.n = M.dest.length:=hde.1
 obtain ⟨cs,hcs⟩ : ∃ cs,cs = m.cells:=⟨_,rfl⟩
 have c0 : cs[0]? = some (.int .i64 M.id):=by rw [hcs,hm]; rfl
 have c1 : cs[1]? = some (.int .i64 M.op):=by rw [hcs,hm]; rfl
 have c2 : cs[2]? = some (.int .i64 M.version):=by rw [hcs,hm]; rfl
 have c7 : cs[7]? = some (.bool M.has):=by rw [hcs,hm]; rfl
 have c8 : cs[8]? = some (.string M.value):=by rw [hcs,hm]; rfl
 have c9 : cs[9]? = some (.int .i64 M.code):=by rw [hcs,hm]; rfl
 have c11 : cs[11]? = some (.int .i64 M.scope):=by rw [hcs,hm]; rfl
 have c12 : cs[12]? = some (.int .i64 M.deref):=by rw [hcs,hm]; rfl
 have c13 : cs[13]? = some (.int .i64 M.size):=by rw [hcs,hm]; rfl
 have c14 : cs[14]? = some (.int .i64 M.time):=by rw [hcs,hm]; rfl
 have c16 : cs[16]? = some (.int .i64 f.kind):=by rw [hcs,hm]; rfl
 have c17 : cs[17]? = some (.string f.attr):=by rw [hcs,hm]; rfl
 have c18 : cs[18]? = some (.string f.value):=by rw [hcs,hm]; rfl
 have c19 : cs[19]? = some (.string f.first):=by rw [hcs,hm]; rfl
 have c20 : cs[20]? = some (.slice f.any.A f.any.n f.any.c):=by rw [hcs,hm]; rfl
 have c21 : cs[21]? = some (.string f.last):=by rw [hcs,hm]; rfl
 have c22 : cs[22]? = some (.slice f.kids.A f.kids.n f.kids.c):=by rw [hcs,hm]; rfl
 have c19m : cs[25]? = some (.slice uA M.mods.length uc):=by rw [hcs,hm]; rfl
 have c28 : cs[28]? = some (.slice de.A M.dest.length de.c):=by rw [hcs,hm,<- hden]; rfl
 have c29 : cs[29]? = some (.int .i64 M.other):=by rw [hcs,hm]; rfl
 have c30 : cs[30]? = some (.slice oA M.controls.length oc):=by rw [hcs,hm]; rfl
 have HCS:=aa (show cs = m.cells from hcs)
 have HEX:=aa (show cs = #[.int .i64 M.id,.int .i64 M.op,.int .i64 M.version,.string M.name,.bool M.sasl,.string M.secret,.string M.kind,.bool M.has,.string M.value,.int .i64 M.code,.string M.text,.int .i64 M.scope,.int .i64 M.deref,.int .i64 M.size,.int .i64 M.time,.bool M.types,.int .i64 f.kind,.string f.attr,.string f.value,.string f.first,.slice f.any.A f.any.n f.any.c,.string f.last,.slice f.kids.A f.kids.n f.kids.c,.slice at'.A at'.n at'.c,.slice li.A li.n li.c,.slice uA M.mods.length uc,.string M.rdn,.bool M.old,.slice de.A M.dest.length de.c,.int .i64 M.other,.slice oA M.controls.length oc] by rw [hcs,hm,<- hden]; rfl)
 have HSZ:=aa (show cs.size = 31 by rw [hcs]; exact cJ m)
 rw [<- hcs]
 obtain ⟨wm,hwc⟩ : ∃ W,W = w.alloc (.cells cs 30):=⟨_,rfl⟩
 have hbx : Below w.heap.size w wm:=by rw [hwc]; exact (Below.refl w.heap.size w).alloc (Nat.le_refl _) _
 have hkx : Bk wm w.heap.size 30 cs:=by rw [hwc]; exact Bk.new w _ cs
 have HBX:=aa hbx
 have HKX:=aa hkx
 have HWC:=aa hwc
 have HC:=aa (And.intro c0 (And.intro c1 (And.intro c2 (And.intro c7 (And.intro c8 (And.intro c9 (And.intro c11 (And.intro c12 (And.intro c13 (And.intro c14 c28))))))))))
 have HF:=aa (And.intro c16 (And.intro c17 (And.intro c18 (And.intro c19 (And.intro c20 (And.intro c21 c22))))))
 have HC25:=aa c19m
 have HC29:=aa c29
 have HC30:=aa c30
 have HM4:=aa hm4
 have HU4:=aa hu4
 have hmm : oc <= 9223372036854775807:=by unfold maxLen at hm3; omega
 have huu : uc <= 9223372036854775807:=by unfold maxLen at hu3; omega
 have hdm : de.c <= 9223372036854775807:=by have:=hde.2.2.1; unfold maxLen at this; omega
 have hdn : M.dest.length <= de.c:=by rw [<- hden]; exact hde.2.1
 have HFR:=aa fun (W : World) (hb : Below w.heap.size w W) => rfright_any M.filter f.cells S W (FlAt.keep (T:=S) hb.size (fun x _ hlt => hb.block x hlt) (fun _ h _ => h) _ _ hfl)
 have HAN:=aa fun (W : World) => ec M.op W
 have HIN:=aa fun (n k : Int) (W : World) => rin_any n k W
 obtain ⟨r,hr⟩ : ∃ r,r = M.rright:=⟨_,rfl⟩
 rw [<- hr]
 have HR:=aa hr
 clear hcs hm hfl hat hli hde hm3 hm4 hu3 hu4 hbx hkx hwc hkeep hr c0 c2 c7 c8 c9 c11 c12 c13 c14 c16 c17 c18 c19 c20 c21 c22 c19m c28 c29 c30 hden hov huv
 go_enter Tryz.func10,Tryz.ntmps10
 go_upto_region 1 with fail
 rw [<- HWC.out]
 have p1:=(HKX.out.cell 1).trans c1
 have l0:=HKX.out.lt
 clear c1
 go_cut [3] from 6 to 63 (fun v wx => v = .bool (aM M.op) /\ wx = wm)
 case first =>
  as_aux_lemma =>
  obtain ha | ha : aD M.op = true \/ aD M.op = false:=by cases aD M.op <;> simp
  ·rw [ha] at HAN
   have HV:=aa (show aM M.op = true by unfold aM; rw [ha]; rfl)
   clear ha
   go_wp2_with (first
    | (go_at_call 34; go_must (refine (HAN.out _).mono ?_); rintro e w1 ⟨rfl,rfl⟩)
    | fail)
   go_meet
   exact ⟨by rw [HV.out],rfl⟩
  ·rw [ha] at HAN
   have HNO:=aa ha
   clear ha
   by_cases h0 : M.op = 0
   ·have HV:=aa (show aM M.op = true by rw [h0]; rfl)
    have b0 : (M.op == 0) = true:=by rw [h0]; rfl
    clear h0
    go_wp2_with (first
     | (go_at_call 34; go_must (refine (HAN.out _).mono ?_); rintro e w1 ⟨rfl,rfl⟩)
     | fail)
    go_meet
    exact ⟨by rw [HV.out],rfl⟩
   have b0 : (M.op == 0) = false:=by rw [beq_eq_false_iff_ne]; exact h0
   clear h0
   by_cases h2 : M.op = 2
   ·have HV:=aa (show aM M.op = true by rw [h2]; rfl)
    have b2 : (M.op == 2) = true:=by rw [h2]; rfl
    clear h2
    go_wp2_with (first
     | (go_at_call 34; go_must (refine (HAN.out _).mono ?_); rintro e w1 ⟨rfl,rfl⟩)
     | fail)
    go_meet
    exact ⟨by rw [HV.out],rfl⟩
   have b2 : (M.op == 2) = false:=by rw [beq_eq_false_iff_ne]; exact h2
   clear h2
   by_cases h3 : M.op = 3
   ·have HV:=aa (show aM M.op = true by rw [h3]; rfl)
    have b3 : (M.op == 3) = true:=by rw [h3]; rfl
    clear h3
    go_wp2_with (first
     | (go_at_call 34; go_must (refine (HAN.out _).mono ?_); rintro e w1 ⟨rfl,rfl⟩)
     | fail)
    go_meet
    exact ⟨by rw [HV.out],rfl⟩
   have b3 : (M.op == 3) = false:=by rw [beq_eq_false_iff_ne]; exact h3
   clear h3
   by_cases h4 : M.op = 4
   ·have HV:=aa (show aM M.op = true by rw [h4]; rfl)
    have b4 : (M.op == 4) = true:=by rw [h4]; rfl
    clear h4
    go_wp2_with (first
     | (go_at_call 34; go_must (refine (HAN.out _).mono ?_); rintro e w1 ⟨rfl,rfl⟩)
     | fail)
    go_meet
    exact ⟨by rw [HV.out],rfl⟩
   have b4 : (M.op == 4) = false:=by rw [beq_eq_false_iff_ne]; exact h4
   clear h4
   by_cases h6 : M.op = 6
   ·have HV:=aa (show aM M.op = true by rw [h6]; rfl)
    have b6 : (M.op == 6) = true:=by rw [h6]; rfl
    clear h6
    go_wp2_with (first
     | (go_at_call 34; go_must (refine (HAN.out _).mono ?_); rintro e w1 ⟨rfl,rfl⟩)
     | fail)
    go_meet
    exact ⟨by rw [HV.out],rfl⟩
   have b6 : (M.op == 6) = false:=by rw [beq_eq_false_iff_ne]; exact h6
   clear h6
   by_cases h8 : M.op = 8
   ·have HV:=aa (show aM M.op = true by rw [h8]; rfl)
    have b8 : (M.op == 8) = true:=by rw [h8]; rfl
    clear h8
    go_wp2_with (first
     | (go_at_call 34; go_must (refine (HAN.out _).mono ?_); rintro e w1 ⟨rfl,rfl⟩)
     | fail)
    go_meet
    exact ⟨by rw [HV.out],rfl⟩
   have b8 : (M.op == 8) = false:=by rw [beq_eq_false_iff_ne]; exact h8
   clear h8
   by_cases h10 : M.op = 10
   ·have HV:=aa (show aM M.op = true by rw [h10]; rfl)
    have b10 : (M.op == 10) = true:=by rw [h10]; rfl
    clear h10
    go_wp2_with (first
     | (go_at_call 34; go_must (refine (HAN.out _).mono ?_); rintro e w1 ⟨rfl,rfl⟩)
     | fail)
    go_meet
    exact ⟨by rw [HV.out],rfl⟩
   have b10 : (M.op == 10) = false:=by rw [beq_eq_false_iff_ne]; exact h10
   clear h10
   by_cases h12 : M.op = 12
   ·have HV:=aa (show aM M.op = true by rw [h12]; rfl)
    have b12 : (M.op == 12) = true:=by rw [h12]; rfl
    clear h12
    go_wp2_with (first
     | (go_at_call 34; go_must (refine (HAN.out _).mono ?_); rintro e w1 ⟨rfl,rfl⟩)
     | fail)
    go_meet
    exact ⟨by rw [HV.out],rfl⟩
   have b12 : (M.op == 12) = false:=by rw [beq_eq_false_iff_ne]; exact h12
   clear h12
   by_cases h14 : M.op = 14
   ·have HV:=aa (show aM M.op = true by rw [h14]; rfl)
    have b14 : (M.op == 14) = true:=by rw [h14]; rfl
    clear h14
    go_wp2_with (first
     | (go_at_call 34; go_must (refine (HAN.out _).mono ?_); rintro e w1 ⟨rfl,rfl⟩)
     | fail)
    go_meet
    exact ⟨by rw [HV.out],rfl⟩
   have b14 : (M.op == 14) = false:=by rw [beq_eq_false_iff_ne]; exact h14
   clear h14
   by_cases h16 : M.op = 16
   ·have HV:=aa (show aM M.op = true by rw [h16]; rfl)
    have b16 : (M.op == 16) = true:=by rw [h16]; rfl
    clear h16
    go_wp2_with (first
     | (go_at_call 34; go_must (refine (HAN.out _).mono ?_); rintro e w1 ⟨rfl,rfl⟩)
     | fail)
    go_meet
    exact ⟨by rw [HV.out],rfl⟩
   have b16 : (M.op == 16) = false:=by rw [beq_eq_false_iff_ne]; exact h16
   clear h16
   by_cases h23 : M.op = 23
   ·have HV:=aa (show aM M.op = true by rw [h23]; rfl)
    have b23 : (M.op == 23) = true:=by rw [h23]; rfl
    clear h23
    go_wp2_with (first
     | (go_at_call 34; go_must (refine (HAN.out _).mono ?_); rintro e w1 ⟨rfl,rfl⟩)
     | fail)
    go_meet
    exact ⟨by rw [HV.out],rfl⟩
   have b23 : (M.op == 23) = false:=by rw [beq_eq_false_iff_ne]; exact h23
   clear h23
   have HV:=aa (show aM M.op = false by unfold aM; rw [HNO.out,b0,b2,b3,b4,b6,b8,b10,b12,b14,b16,b23]; rfl)
   go_wp2_with (first
    | (go_at_call 34; go_must (refine (HAN.out _).mono ?_); rintro e w1 ⟨rfl,rfl⟩)
    | fail)
   go_meet
   exact ⟨by rw [HV.out],rfl⟩
 case rest =>
 obtain ⟨rfl,hwx⟩:=hcut
 rw [hwx]
 clear hwx p1
 have HSO:=aa fun (W : World) (hb : Below w.heap.size w W) (hk : aM M.op = true) => same_only M m S W (HKEEP.out W hb) hk
 have HON:=aa fun (W : World) (hk : aM M.op = true) => ronly_any m W (by rw [HMS.out.op]; exact hk)
 go_upto_region 2 with fail
 go_cut [3,78] from 64 to 77 (fun _ v wx => v = .bool (!M.good2) /\ Below w.heap.size w wx /\ Bk wx w.heap.size 30 cs)
 case first =>
  have p0:=(HKX.out.cell 0).trans HC.out.1
  obtain hk | hk : aM M.op = false \/ aM M.op = true:=by cases aM M.op <;> simp
  ·as_aux_lemma =>
   have HV:=aa (show M.good2 = false by unfold Ms.good2; rw [hk]; rfl)
   rw [hk]
   clear hk
   have hund : undef = .tuple #[]:=rfl
   first | go_region_with (fail) | fail
   all_goals
    (try go_simp)
    (try go_wp2_with fail)
    (try go_simp)
    go_meet
    exact ⟨by rw [HV.out]; rfl,by first | exact HBX.out | exact HBX.out.drew | exact HBX.out.trans (Below.refl _ _).drew,by first | exact HKX.out | exact af HKX.out (Below.refl _ _).drew⟩
  rw [hk]
  obtain hi | hi : inB M.id 0 2147483647 = false \/ inB M.id 0 2147483647 = true:=by cases inB M.id 0 2147483647 <;> simp
  ·as_aux_lemma =>
   have HV:=aa (show M.good2 = false by unfold Ms.good2; rw [hk,hi]; rfl)
   have HI:=aa fun (W : World) => (show Calls _ _ _ _ (cU false W) by have:=HIN.out M.id 2147483647 W; rwa [hi] at this)
   clear hk hi
   have hund : undef = .tuple #[]:=rfl
   first | go_region_with (go_at_call 35; go_must (refine (HI.out _).mono ?_); rintro e w1 ⟨rfl,rfl⟩) | fail
   all_goals
    (try go_simp)
    (try go_wp2_with fail)
    (try go_simp)
    go_meet
    exact ⟨by rw [HV.out]; rfl,by first | exact HBX.out | exact HBX.out.drew | exact HBX.out.trans (Below.refl _ _).drew,by first | exact HKX.out | exact af HKX.out (Below.refl _ _).drew⟩
  ·as_aux_lemma =>
   have HV:=aa (show M.good2 = M.lens.bare.empty by unfold Ms.good2; rw [hk,hi]; rfl)
   have HI:=aa fun (W : World) => (show Calls _ _ _ _ (cU true W) by have:=HIN.out M.id 2147483647 W; rwa [hi] at this)
   have HSO2:=aa fun (W : World) (hb : Below w.heap.size w W) => HSO.out W hb hk
   have HON2:=aa fun (W : World) => HON.out W hk
   rw [<- HCS.out] at HSO2 HON2
   have HKS:=aa fun (W : World) (hb : Below wm.heap.size wm W) => (show W.cell? ⟨w.heap.size,0,none⟩ = some (.int .i64 M.id) /\ W.heap[w.heap.size]? = some (.cells cs 30 (0,0)) from ⟨((af HKX.out hb).cell 0).trans HC.out.1,af HKX.out hb⟩)
   have HBR:=aa (Below.refl wm.heap.size wm).drew
   have HSI:=aa (show (Tryz.prog.info? 30).map (·.size) = some cs.size by rw [HSZ.out]; exact HSM.out)
   clear hk hi p0
   refine wp_region_held_drew (S:=fun W => W.cell? ⟨w.heap.size,0,none⟩ = some (.int .i64 M.id) /\ W.heap[w.heap.size]? = some (.cells cs 30 (0,0))) (by kernel_rfl) (HKS.out _ HBR.out) (fun hHeld => ?_)
   refine wpAnyH_take (i:=0) (oi:={ dst:=some 64,op:=Op.move (Operand.tmp 3),type:=4,pos:= "ref.go:170",after:=#[],guard:=none }) (v:=?_) rfl (by kernel_rfl) (by kernel_rfl) (by kernel_rfl) (fun _ _ _ h => h) (Or.inl ⟨by rfl,?_⟩) hHeld ?_
   rotate_left
   ·intro w5 hSw
    obtain ⟨hS0,-⟩:=hSw
    go_simp
    (try with_reducible rfl)
   try simp only [Act.put,List.setIfInBounds_toArray,List.set_cons_zero,List.set_cons_succ]
   refine wpAnyH_take (i:=1) (oi:={ dst:=some 65,op:=Op.unOp UnOp.not 4 (Operand.tmp 64),type:=4,pos:= "ref.go:170",after:=#[{ on:=0,ground:=Ground.data }],guard:=none }) (v:=?_) rfl (by kernel_rfl) (by kernel_rfl) (by kernel_rfl) (fun _ _ _ h => h) (Or.inl ⟨by rfl,?_⟩) hHeld ?_
   rotate_left
   ·intro w5 hSw
    obtain ⟨hS0,-⟩:=hSw
    go_simp
    (try with_reducible rfl)
   try simp only [Act.put,List.setIfInBounds_toArray,List.set_cons_zero,List.set_cons_succ]
   refine wpAnyH_take (i:=2) (oi:={ dst:=some 66,op:=Op.move (Operand.tmp 65),type:=4,pos:= "ref.go:170",after:=#[{ on:=1,ground:=Ground.data }],guard:=none }) (v:=?_) rfl (by kernel_rfl) (by kernel_rfl) (by kernel_rfl) (fun _ _ _ h => h) (Or.inl ⟨by rfl,?_⟩) hHeld ?_
   rotate_left
   ·intro w5 hSw
    obtain ⟨hS0,-⟩:=hSw
    go_simp
    (try with_reducible rfl)
   try simp only [Act.put,List.setIfInBounds_toArray,List.set_cons_zero,List.set_cons_succ]
   refine wpAnyH_take (i:=3) (oi:={ dst:=some 67,op:=Op.fieldAddr 30 (Operand.tmp 1) 0,type:=0,pos:= "ref.go:170",after:=#[{ on:=2,ground:=Ground.guard }],guard:=some (2,false) }) (v:=?_) rfl (by kernel_rfl) (by kernel_rfl) (by kernel_rfl) (fun _ _ _ h => h) (Or.inl ⟨by rfl,?_⟩) hHeld ?_
   rotate_left
   ·intro w5 hSw
    obtain ⟨hS0,-⟩:=hSw
    go_simp
    (try with_reducible rfl)
   try simp only [Act.put,List.setIfInBounds_toArray,List.set_cons_zero,List.set_cons_succ]
   refine wpAnyH_take (i:=4) (oi:={ dst:=some 68,op:=Op.load 3 (Operand.tmp 67),type:=3,pos:= "ref.go:170",after:=#[{ on:=3,ground:=Ground.data },{ on:=2,ground:=Ground.guard }],guard:=some (2,false) }) (v:=?_) rfl (by kernel_rfl) (by kernel_rfl) (by kernel_rfl) (fun _ _ _ h => h) (Or.inl ⟨by rfl,?_⟩) hHeld ?_
   rotate_left
   ·intro w5 hSw
    obtain ⟨hS0,-⟩:=hSw
    go_simp
    (try with_reducible rfl)
   try simp only [Act.put,List.setIfInBounds_toArray,List.set_cons_zero,List.set_cons_succ]
   refine wpAnyH_ready (rs:=[5]) (by kernel_rfl) (by simp) ?_
   refine AllReadyH.cons (o:={ dst:=some 69,op:=Op.call { callee:=Callee.value (Operand.func 35),args:=#[Operand.tmp 68,Operand.const (Value.int IntKind.i64 2147483647)],argTypes:=#[3,3] },type:=4,pos:= "ref.go:170",after:=#[{ on:=4,ground:=Ground.data },{ on:=2,ground:=Ground.chain },{ on:=2,ground:=Ground.guard }],guard:=some (2,false) }) rfl (fun K hK => ?_) AllReadyH.nil
   go_simp
   (go_at_call 35)
   refine (HI.out _).mono ?_
   rintro e w1 ⟨rfl,rfl⟩
   go_wp2_with fail
   refine hK _ _ (HKS.out _ HBR.out) (fun hHeld2 => ?_)
   clear hK K hHeld
   have hHeld:=hHeld2
   clear hHeld2
   try simp only [Act.put,List.setIfInBounds_toArray,List.set_cons_zero,List.set_cons_succ]
   refine wpAnyH_take (i:=6) (oi:={ dst:=some 70,op:=Op.unOp UnOp.not 4 (Operand.tmp 69),type:=4,pos:= "ref.go:170",after:=#[{ on:=5,ground:=Ground.data },{ on:=2,ground:=Ground.guard }],guard:=some (2,false) }) (v:=?_) rfl (by kernel_rfl) (by kernel_rfl) (by kernel_rfl) (fun _ _ _ h => h) (Or.inl ⟨by rfl,?_⟩) hHeld ?_
   rotate_left
   ·intro w5 hSw
    obtain ⟨hS0,-⟩:=hSw
    go_simp
    (try with_reducible rfl)
   try simp only [Act.put,List.setIfInBounds_toArray,List.set_cons_zero,List.set_cons_succ]
   refine wpAnyH_take (i:=7) (oi:={ dst:=some 71,op:=Op.pick (Operand.tmp 66) (Operand.const (Value.bool true)) (Operand.tmp 70),type:=4,pos:= "ref.go:170",after:=#[{ on:=2,ground:=Ground.data },{ on:=6,ground:=Ground.data }],guard:=none }) (v:=?_) rfl (by kernel_rfl) (by kernel_rfl) (by kernel_rfl) (fun _ _ _ h => h) (Or.inl ⟨by rfl,?_⟩) hHeld ?_
   rotate_left
   ·intro w5 hSw
    obtain ⟨hS0,-⟩:=hSw
    go_simp
    (try with_reducible rfl)
   try simp only [Act.put,List.setIfInBounds_toArray,List.set_cons_zero,List.set_cons_succ]
   refine wpAnyH_take (i:=8) (oi:={ dst:=some 72,op:=Op.move (Operand.tmp 71),type:=4,pos:= "ref.go:170",after:=#[{ on:=7,ground:=Ground.data },{ on:=5,ground:=Ground.chain }],guard:=none }) (v:=?_) rfl (by kernel_rfl) (by kernel_rfl) (by kernel_rfl) (fun _ _ _ h => h) (Or.inl ⟨by rfl,?_⟩) hHeld ?_
   rotate_left
   ·intro w5 hSw
    obtain ⟨hS0,-⟩:=hSw
    go_simp
    (try with_reducible rfl)
   try simp only [Act.put,List.setIfInBounds_toArray,List.set_cons_zero,List.set_cons_succ]
   refine wpAnyH_take (i:=9) (oi:={ dst:=some 73,op:=Op.load 30 (Operand.tmp 1),type:=30,pos:= "ref.go:170",after:=#[{ on:=8,ground:=Ground.guard }],guard:=some (8,false) }) (v:=.agg cs) rfl (by kernel_rfl) (by kernel_rfl) (by kernel_rfl) (fun _ _ _ h => h) (Or.inl ⟨by rfl,?_⟩) hHeld ?_
   ·intro w5 hSw
    exact ch _ _ _ _ rfl rfl hSw.2 Tryz.underlying30 rfl HSI.out
   try simp only [Act.put,List.setIfInBounds_toArray,List.set_cons_zero,List.set_cons_succ]
   refine wpAnyH_take (i:=10) (oi:={ dst:=some 74,op:=Op.load 30 (Operand.tmp 1),type:=30,pos:= "ref.go:170",after:=#[{ on:=8,ground:=Ground.guard }],guard:=some (8,false) }) (v:=.agg cs) rfl (by kernel_rfl) (by kernel_rfl) (by kernel_rfl) (fun _ _ _ h => h) (Or.inl ⟨by rfl,?_⟩) hHeld ?_
   ·intro w5 hSw
    exact ch _ _ _ _ rfl rfl hSw.2 Tryz.underlying30 rfl HSI.out
   try simp only [Act.put,List.setIfInBounds_toArray,List.set_cons_zero,List.set_cons_succ]
   refine wpAnyH_ready (rs:=[11]) (by kernel_rfl) (by simp) ?_
   refine AllReadyH.cons (o:={ dst:=some 75,op:=Op.call { callee:=Callee.value (Operand.func 36),args:=#[Operand.tmp 74],argTypes:=#[30] },type:=30,pos:= "ref.go:170",after:=#[{ on:=10,ground:=Ground.data },{ on:=8,ground:=Ground.chain },{ on:=8,ground:=Ground.guard }],guard:=some (8,false) }) rfl (fun K hK => ?_) AllReadyH.nil
   go_simp
   (go_at_call 36)
   refine (HON2.out _).mono ?_
   rintro e w1 ⟨rfl,hb1⟩
   have hn1:=ag HBR.out hb1
   go_wp2_with fail
   refine hK _ _ (HKS.out _ hn1) (fun hHeld2 => ?_)
   clear hK K hHeld
   have hHeld:=hHeld2
   clear hHeld2
   try simp only [Act.put,List.setIfInBounds_toArray,List.set_cons_zero,List.set_cons_succ]
   refine wpAnyH_ready (rs:=[12]) (by kernel_rfl) (by simp) ?_
   refine AllReadyH.cons (o:={ dst:=some 76,op:=Op.call { callee:=Callee.value (Operand.func 12),args:=#[Operand.tmp 73,Operand.tmp 75],argTypes:=#[30,30] },type:=4,pos:= "ref.go:170",after:=#[{ on:=9,ground:=Ground.data },{ on:=11,ground:=Ground.data },{ on:=11,ground:=Ground.chain },{ on:=8,ground:=Ground.guard }],guard:=some (8,false) }) rfl (fun K hK => ?_) AllReadyH.nil
   go_simp
   (go_at_call 12)
   refine (HSO2.out _ (HBX.out.trans (hn1.mono HBX.out.size))).mono ?_
   rintro e w2 ⟨rfl,hb2⟩
   have hn2:=ag hn1 hb2
   go_wp2_with fail
   refine hK _ _ (HKS.out _ hn2) (fun hHeld2 => ?_)
   clear hK K hHeld
   have hHeld:=hHeld2
   clear hHeld2
   try simp only [Act.put,List.setIfInBounds_toArray,List.set_cons_zero,List.set_cons_succ]
   refine wpAnyH_take (i:=13) (oi:={ dst:=some 77,op:=Op.unOp UnOp.not 4 (Operand.tmp 76),type:=4,pos:= "ref.go:170",after:=#[{ on:=12,ground:=Ground.data },{ on:=8,ground:=Ground.guard }],guard:=some (8,false) }) (v:=?_) rfl (by kernel_rfl) (by kernel_rfl) (by kernel_rfl) (fun _ _ _ h => h) (Or.inl ⟨by rfl,?_⟩) hHeld ?_
   rotate_left
   ·intro w5 hSw
    obtain ⟨hS0,-⟩:=hSw
    go_simp
    (try with_reducible rfl)
   try simp only [Act.put,List.setIfInBounds_toArray,List.set_cons_zero,List.set_cons_succ]
   refine wpAnyH_take (i:=14) (oi:={ dst:=some 78,op:=Op.pick (Operand.tmp 72) (Operand.const (Value.bool true)) (Operand.tmp 77),type:=4,pos:= "ref.go:170",after:=#[{ on:=8,ground:=Ground.data },{ on:=13,ground:=Ground.data }],guard:=none }) (v:=?_) rfl (by kernel_rfl) (by kernel_rfl) (by kernel_rfl) (fun _ _ _ h => h) (Or.inl ⟨by rfl,?_⟩) hHeld ?_
   rotate_left
   ·intro w5 hSw
    obtain ⟨hS0,-⟩:=hSw
    go_simp
    (try with_reducible rfl)
   try simp only [Act.put,List.setIfInBounds_toArray,List.set_cons_zero,List.set_cons_succ]
   refine wpAnyH_done (by kernel_rfl) ?_ _
   try go_simp
   go_wp2_with fail
   try go_simp
   go_meet
   exact ⟨by rw [HV.out],HBX.out.trans (hn2.mono HBX.out.size),af HKX.out hn2⟩
 case rest =>
 obtain ⟨rfl,hbw,hbk⟩:=hcut
 have HBW0:=aa hbw
 have HBK0:=aa hbk
 have p30:=(hbk.cell 30).trans HC30.out
 have l30:=hbk.lt
 obtain hg | hg : M.good2 = false \/ M.good2 = true:=by cases M.good2 <;> simp
 ·have HV:=aa (show r = false by rw [HR.out]; unfold Ms.rright; rw [hg]; rfl)
  rw [hg]
  clear hg hbw hbk p30
  go_wp2_with fail
  go_ret
  exact ah HV.out HBW0.out
 have HV1:=aa (show r = (M.ctlsOk && (mdOk M.mods && (!M.bad14 && (!M.bad16 && M.inAll)))) by rw [HR.out]; unfold Ms.rright; rw [hg]; rfl)
 rw [hg]
 clear hg hbw hbk
 go_wp2_with fail
 go_loopw [4] (fun i wr => ∃ j : Nat,i = .int .i64 j /\ j <= M.controls.length /\ Hid (M.ctlsOk = (M.controls.drop j).all fun c => c.2.2.1 || !aj c.2.2.2) /\ Below w.heap.size w wr /\ Bk wr w.heap.size 30 cs) (fun i _ => M.controls.length - (intOf i).toNat)
 case atStart => exact ⟨0,rfl,Nat.zero_le _,rfl,HBW0.out,HBK0.out⟩
 case round =>
  obtain ⟨j,rfl,hj,HT,hbw,hbk⟩:=hrel
  have HBW:=aa hbw
  have HBK:=aa hbk
  have p30:=(hbk.cell 30).trans HC30.out
  have l30:=hbk.lt
  by_cases hlt : j < M.controls.length
  ·have z1 : decide ((j : Int) < (M.controls.length : Int)) = true:=ab (by omega)
   have z1n : decide (j < M.controls.length) = true:=ab (by omega)
   obtain ⟨b,o,c,rfl,hS,hc1,hcl,hfk⟩:=HM4.out j M.controls[j] (List.getElem?_eq_getElem hlt)
   obtain ⟨rfl,-,-⟩:=hfk
   have hcw : ∀ o',wr.cell? ⟨b,o',none⟩ = w.cell? ⟨b,o',none⟩:=fun o' => hbw.cell (p:=⟨b,o',none⟩) hS.2
   have HAD:=aa (fo (fun c : Co => c.2.2.1 || !aj c.2.2.2) M.controls j hlt)
   have q2 : wr.cell? ⟨b,o + j * 4 + 2,none⟩ = some (.bool M.controls[j].2.2.1):=(hcw _).trans (hcl 2 _ rfl)
   have q3 : wr.cell? ⟨b,o + j * 4 + 3,none⟩ = some (.string M.controls[j].2.2.2):=(hcw _).trans (hcl 3 _ rfl)
   have hbr : b < wr.heap.size:=Nat.lt_of_lt_of_le hS.2 hbw.size
   obtain ⟨x,hx⟩ : ∃ x,x = M.controls[j]:=⟨_,rfl⟩
   rw [<- hx] at q2 q3
   have HAD2:=aa (show ((M.controls.drop j).all fun c => c.2.2.1 || !aj c.2.2.2) = ((x.2.2.1 || !aj x.2.2.2) && (M.controls.drop (j + 1)).all fun c => c.2.2.1 || !aj c.2.2.2) by rw [hx]; exact HAD.out)
   clear hx hS hc1 hcl hcw hbw hbk HAD
   obtain ⟨x1,x2,x3,x4⟩:=x
   simp only at q2 q3 HAD2
   cases x3 with
   | true =>
    have HV2:=aa (show M.ctlsOk = (M.controls.drop (j + 1)).all fun c => c.2.2.1 || !aj c.2.2.2 by rw [HT.out,HAD2.out]; rfl)
    go_wp2_with fail
    go_roundw
    case rel => exact ⟨j + 1,by go_num,by omega,HV2.out,HBW.out,HBK.out⟩
    case measure => simp [intOf]; omega
   | false =>
    cases hf : aj x4 with
    | true =>
     have y1:=aU hf
     have HV2:=aa (show r = false by rw [HV1.out,HT.out,HAD2.out,hf]; rfl)
     clear hf
     go_wp2_with fail
     go_ret
     exact ah HV2.out HBW.out
    | false =>
     have y1:=(aE hf).1
     have y2:=(aE hf).2
     have HV2:=aa (show M.ctlsOk = (M.controls.drop (j + 1)).all fun c => c.2.2.1 || !aj c.2.2.2 by rw [HT.out,HAD2.out,hf]; rfl)
     clear hf
     go_wp2_with fail
     go_roundw
     case rel => exact ⟨j + 1,by go_num,by omega,HV2.out,HBW.out,HBK.out⟩
     case measure => simp [intOf]; omega
  have z1 : decide ((j : Int) < (M.controls.length : Int)) = false:=ae (by omega)
  have z1n : decide (j < M.controls.length) = false:=ae (by omega)
  have HV2:=aa (show r = (mdOk M.mods && (!M.bad14 && (!M.bad16 && M.inAll))) by rw [HV1.out,HT.out,List.drop_of_length_le (by omega)]; rfl)
  clear hbw hbk hlt
  go_wp2_with fail
  clear z1 z1n p30 l30
  go_loopw [5] (fun i wr => ∃ j : Nat,i = .int .i64 j /\ j <= M.mods.length /\ Hid (mdOk M.mods = (M.mods.drop j).all fun x => inB x.1 0 2) /\ Below w.heap.size w wr /\ Bk wr w.heap.size 30 cs) (fun i _ => M.mods.length - (intOf i).toNat)
  case atStart => exact ⟨0,rfl,Nat.zero_le _,rfl,HBW.out,HBK.out⟩
  case round =>
   obtain ⟨k,rfl,hk,HT2,hbw,hbk⟩:=hrel
   have HBW2:=aa hbw
   have HBK2:=aa hbk
   have p25:=(hbk.cell 25).trans HC25.out
   have l25:=hbk.lt
   by_cases hlt : k < M.mods.length
   ·have z1 : decide ((k : Int) < (M.mods.length : Int)) = true:=ab (by omega)
    have z1n : decide (k < M.mods.length) = true:=ab (by omega)
    obtain ⟨b,o,c,rfl,hS,hc1,hcl,hfk⟩:=HU4.out k M.mods[k] (List.getElem?_eq_getElem hlt)
    obtain ⟨q9,rfl,-,-⟩:=hfk
    have hcw : ∀ o',wr.cell? ⟨b,o',none⟩ = w.cell? ⟨b,o',none⟩:=fun o' => hbw.cell (p:=⟨b,o',none⟩) hS.2
    have HAD:=aa (fo (fun x : Md => inB x.1 0 2) M.mods k hlt)
    have q0 : wr.cell? ⟨b,o + k * 3,none⟩ = some (.int .i64 M.mods[k].1):=(hcw _).trans (hcl 0 _ rfl)
    have hbr : b < wr.heap.size:=Nat.lt_of_lt_of_le hS.2 hbw.size
    obtain ⟨x,hx⟩ : ∃ x,x = M.mods[k].1:=⟨_,rfl⟩
    rw [<- hx] at q0
    have HAD2:=aa (show ((M.mods.drop k).all fun x => inB x.1 0 2) = (inB x 0 2 && (M.mods.drop (k + 1)).all fun x => inB x.1 0 2) by rw [hx]; exact HAD.out)
    have HI:=aa fun (W : World) => HIN.out x 2 W
    clear hx hS hc1 hcl hcw hbw hbk HAD
    obtain hi | hi : inB x 0 2 = false \/ inB x 0 2 = true:=by cases inB x 0 2 <;> simp
    ·rw [hi] at HI
     have HV3:=aa (show r = false by rw [HV2.out,HT2.out,HAD2.out,hi]; rfl)
     clear hi
     go_wp2_with (first
      | (go_at_call 35; go_must (refine (HI.out _).mono ?_); rintro e w1 ⟨rfl,rfl⟩)
      | fail)
     go_ret
     exact ah HV3.out HBW2.out
    ·rw [hi] at HI
     have HV3:=aa (show mdOk M.mods = (M.mods.drop (k + 1)).all fun x => inB x.1 0 2 by rw [HT2.out,HAD2.out,hi]; rfl)
     clear hi
     go_wp2_with (first
      | (go_at_call 35; go_must (refine (HI.out _).mono ?_); rintro e w1 ⟨rfl,rfl⟩)
      | fail)
     go_roundw
     case rel => first | exact ⟨k + 1,by go_num,by omega,HV3.out,HBW2.out,HBK2.out⟩ | ((repeat apply Exists.intro); refine ⟨?_,rfl⟩; exact ⟨k + 1,by go_num,by omega,HV3.out,HBW2.out,HBK2.out⟩)
     case measure => simp [intOf]; omega
   have z1 : decide ((k : Int) < (M.mods.length : Int)) = false:=ae (by omega)
   have z1n : decide (k < M.mods.length) = false:=ae (by omega)
   have HV3:=aa (show r = (!M.bad14 && (!M.bad16 && M.inAll)) by rw [HV2.out,HT2.out,List.drop_of_length_le (by omega)]; rfl)
   clear hbw hbk hlt
   go_upto_region 14 with fail
   clear z1 z1n p25 l25
   go_cut [140] from 117 to 139 (fun v wx => v = .bool M.bad14 /\ Below w.heap.size w wx /\ Bk wx w.heap.size 30 cs)
   case first =>
    as_aux_lemma =>
    have p1:=(HBK2.out.cell 1).trans HC.out.2.1
    have p2:=(HBK2.out.cell 2).trans HC.out.2.2.1
    have l1:=HBK2.out.lt
    have p16:=(HBK2.out.cell 16).trans HF.out.1
    have p17:=(HBK2.out.cell 17).trans HF.out.2.1
    have p18:=(HBK2.out.cell 18).trans HF.out.2.2.1
    have p19:=(HBK2.out.cell 19).trans HF.out.2.2.2.1
    have p20:=(HBK2.out.cell 20).trans HF.out.2.2.2.2.1
    have p21:=(HBK2.out.cell 21).trans HF.out.2.2.2.2.2.1
    have p22:=(HBK2.out.cell 22).trans HF.out.2.2.2.2.2.2
    by_cases h0 : M.op = 0
    ·have b0 : (M.op == 0) = true:=by rw [h0]; rfl
     have b3 : (M.op == 3) = false:=by rw [h0]; rfl
     clear h0
     by_cases hv1 : M.version < 1
     ·have z1 : decide (M.version < 1) = true:=ab hv1
      have HB:=aa (show M.bad14 = true by unfold Ms.bad14; rw [b0,z1]; rfl)
      clear hv1
      go_wp2_with fail
      go_meet
      exact ⟨by rw [HB.out],HBW2.out,HBK2.out⟩
     have z1 : decide (M.version < 1) = false:=ae hv1
     by_cases hv2 : 127 < M.version
     ·have z2 : decide (127 < M.version) = true:=ab hv2
      have HB:=aa (show M.bad14 = true by unfold Ms.bad14; rw [b0,z1,z2]; rfl)
      clear hv1 hv2
      go_wp2_with fail
      go_meet
      exact ⟨by rw [HB.out],HBW2.out,HBK2.out⟩
     have z2 : decide (127 < M.version) = false:=ae hv2
     have HB:=aa (show M.bad14 = false by unfold Ms.bad14; rw [b0,z1,z2,b3]; rfl)
     clear hv1 hv2
     go_wp2_with fail
     go_meet
     exact ⟨by rw [HB.out],HBW2.out,HBK2.out⟩
    have b0 : (M.op == 0) = false:=by rw [beq_eq_false_iff_ne]; exact h0
    by_cases h3 : M.op = 3
    ·have b3 : (M.op == 3) = true:=by rw [h3]; rfl
     have HB:=aa (show M.bad14 = !M.filter.right by unfold Ms.bad14; rw [b0,b3]; simp)
     clear h0 h3
     go_wp2_with (first
      | (go_at_call 37; go_must (refine (HFR.out _ HBW2.out).mono ?_); rintro e w1 ⟨rfl,hb1⟩; have HB1:=aa (HBW2.out.trans (hb1.mono HBW2.out.size)); have HK1:=aa (af HBK2.out hb1); clear hb1)
      | fail)
     go_meet
     exact ⟨by rw [HB.out],HB1.out,HK1.out⟩
    have b3 : (M.op == 3) = false:=by rw [beq_eq_false_iff_ne]; exact h3
    have HB:=aa (show M.bad14 = false by unfold Ms.bad14; rw [b0,b3]; rfl)
    clear h0 h3
    go_wp2_with fail
    go_meet
    exact ⟨by rw [HB.out],HBW2.out,HBK2.out⟩
   case rest =>
   obtain ⟨rfl,hbw,hbk⟩:=hcut
   have HBW3:=aa hbw
   have HBK3:=aa hbk
   clear hbw hbk
   obtain h14 | h14 : M.bad14 = true \/ M.bad14 = false:=by cases M.bad14 <;> simp
   ·have HV4:=aa (show r = false by rw [HV3.out,h14]; rfl)
    rw [h14]
    clear h14
    go_wp2_with fail
    go_ret
    exact ah HV4.out HBW3.out
   have HV4:=aa (show r = (!M.bad16 && M.inAll) by rw [HV3.out,h14]; rfl)
   rw [h14]
   clear h14
   go_upto_region 16 with fail
   go_cut [159] from 141 to 158 (fun v wx => v = .bool M.bad16 /\ Below w.heap.size w wx /\ Bk wx w.heap.size 30 cs)
   case first =>
    as_aux_lemma =>
    have p1:=(HBK3.out.cell 1).trans HC.out.2.1
    have p7:=(HBK3.out.cell 7).trans HC.out.2.2.2.1
    have p8:=(HBK3.out.cell 8).trans HC.out.2.2.2.2.1
    have p28:=(HBK3.out.cell 28).trans HC.out.2.2.2.2.2.2.2.2.2.2
    have l1:=HBK3.out.lt
    have hD : M.dest.length <= 9223372036854775807:=by omega
    obtain ⟨n,hn⟩ : ∃ n,n = M.dest.length:=⟨_,rfl⟩
    have hnn : n <= 9223372036854775807:=by omega
    rw [<- hn] at p28
    have HN:=aa hn
    clear hn
    by_cases h1 : 1 < n
    ·have z1 : decide ((1 : Int) < (n : Int)) = true:=ab (by omega)
     have z2 : decide (1 < n) = true:=ab h1
     have HD:=aa (show decide (1 < M.dest.length) = true by rw [<- HN.out]; exact z2)
     clear h1
     by_cases h14 : M.op = 14
     ·have b14 : (M.op != 14) = false:=by rw [h14]; rfl
      clear h14
      have HB:=aa (show M.bad16 = true by unfold Ms.bad16; rw [HD.out,b14]; rfl)
      go_wp2_with fail
      go_meet
      exact ⟨by rw [HB.out],HBW3.out,HBK3.out⟩
     have b14 : (M.op != 14) = true:=by rw [bne_iff_ne]; exact h14
     clear h14
     obtain hh | hh : M.has = true \/ M.has = false:=by cases M.has <;> simp
     ·rw [hh] at p7
      have HB:=aa (show M.bad16 = true by unfold Ms.bad16; rw [HD.out,b14,hh]; rfl)
      clear hh
      go_wp2_with fail
      go_meet
      exact ⟨by rw [HB.out],HBW3.out,HBK3.out⟩
     rw [hh] at p7
     cases hf : aj M.value
     ·have y1:=(aE hf).1
      have y2:=(aE hf).2
      have HB:=aa (show M.bad16 = true by unfold Ms.bad16; rw [HD.out,b14,hh,hf]; rfl)
      clear hh hf
      go_wp2_with fail
      go_meet
      exact ⟨by rw [HB.out],HBW3.out,HBK3.out⟩
     have y1:=aU hf
     have HB:=aa (show M.bad16 = true by unfold Ms.bad16; rw [HD.out,b14,hh,hf]; rfl)
     clear hh hf
     go_wp2_with fail
     go_meet
     exact ⟨by rw [HB.out],HBW3.out,HBK3.out⟩
    have z1 : decide ((1 : Int) < (n : Int)) = false:=ae (by omega)
    have z2 : decide (1 < n) = false:=ae h1
    have HD:=aa (show decide (1 < M.dest.length) = false by rw [<- HN.out]; exact z2)
    clear h1
    by_cases h14 : M.op = 14
    ·have b14 : (M.op != 14) = false:=by rw [h14]; rfl
     clear h14
     have HB:=aa (show M.bad16 = false by unfold Ms.bad16; rw [HD.out,b14]; rfl)
     go_wp2_with fail
     go_meet
     exact ⟨by rw [HB.out],HBW3.out,HBK3.out⟩
    have b14 : (M.op != 14) = true:=by rw [bne_iff_ne]; exact h14
    clear h14
    obtain hh | hh : M.has = true \/ M.has = false:=by cases M.has <;> simp
    ·rw [hh] at p7
     have HB:=aa (show M.bad16 = false by unfold Ms.bad16; rw [HD.out,b14,hh]; rfl)
     clear hh
     go_wp2_with fail
     go_meet
     exact ⟨by rw [HB.out],HBW3.out,HBK3.out⟩
    rw [hh] at p7
    cases hf : aj M.value
    ·have y1:=(aE hf).1
     have y2:=(aE hf).2
     have HB:=aa (show M.bad16 = false by unfold Ms.bad16; rw [HD.out,b14,hh,hf]; rfl)
     clear hh hf
     go_wp2_with fail
     go_meet
     exact ⟨by rw [HB.out],HBW3.out,HBK3.out⟩
    have y1:=aU hf
    have HB:=aa (show M.bad16 = true by unfold Ms.bad16; rw [HD.out,b14,hh,hf]; rfl)
    clear hh hf
    go_wp2_with fail
    go_meet
    exact ⟨by rw [HB.out],HBW3.out,HBK3.out⟩
   case rest =>
   obtain ⟨rfl,hbw,hbk⟩:=hcut
   have HBW4:=aa hbw
   have HBK4:=aa hbk
   clear hbw hbk
   obtain h16 | h16 : M.bad16 = true \/ M.bad16 = false:=by cases M.bad16 <;> simp
   ·have HV5:=aa (show r = false by rw [HV4.out,h16]; rfl)
    rw [h16]
    clear h16
    go_wp2_with fail
    go_ret
    exact ah HV5.out HBW4.out
   have HV5:=aa (show r = M.inAll by rw [HV4.out,h16]; rfl)
   rw [h16]
   clear h16
   have p9:=(HBK4.out.cell 9).trans HC.out.2.2.2.2.2.1
   have p11:=(HBK4.out.cell 11).trans HC.out.2.2.2.2.2.2.1
   have p12:=(HBK4.out.cell 12).trans HC.out.2.2.2.2.2.2.2.1
   have p13:=(HBK4.out.cell 13).trans HC.out.2.2.2.2.2.2.2.2.1
   have p14:=(HBK4.out.cell 14).trans HC.out.2.2.2.2.2.2.2.2.2.1
   have p29:=(HBK4.out.cell 29).trans HC29.out
   have l9:=HBK4.out.lt
   have HI_scope:=aa fun (W : World) => HIN.out M.scope 2 W
   obtain hi_scope | hi_scope : inB M.scope 0 2 = false \/ inB M.scope 0 2 = true:=by cases inB M.scope 0 2 <;> simp
   ·rw [hi_scope] at HI_scope
    have HV6:=aa (show r = false by rw [HV5.out]; unfold Ms.inAll; rw [hi_scope]; rfl)
    clear hi_scope
    go_wp2_with (first
     | (go_at_call 35; (with_reducible refine (HI_scope.out _).mono ?_); rintro e w1 ⟨rfl,rfl⟩)
     | fail)
    go_ret
    exact ah HV6.out HBW4.out
   rw [hi_scope] at HI_scope
   have HI_deref:=aa fun (W : World) => HIN.out M.deref 3 W
   obtain hi_deref | hi_deref : inB M.deref 0 3 = false \/ inB M.deref 0 3 = true:=by cases inB M.deref 0 3 <;> simp
   ·rw [hi_deref] at HI_deref
    have HV6:=aa (show r = false by rw [HV5.out]; unfold Ms.inAll; rw [hi_scope,hi_deref]; rfl)
    clear hi_scope hi_deref
    go_wp2_with (first
     | (go_at_call 35; (with_reducible refine (HI_scope.out _).mono ?_); rintro e w1 ⟨rfl,rfl⟩)
     | (go_at_call 35; (with_reducible refine (HI_deref.out _).mono ?_); rintro e w1 ⟨rfl,rfl⟩)
     | fail)
    go_ret
    exact ah HV6.out HBW4.out
   rw [hi_deref] at HI_deref
   have HI_size:=aa fun (W : World) => HIN.out M.size 2147483647 W
   obtain hi_size | hi_size : inB M.size 0 2147483647 = false \/ inB M.size 0 2147483647 = true:=by cases inB M.size 0 2147483647 <;> simp
   ·rw [hi_size] at HI_size
    have HV6:=aa (show r = false by rw [HV5.out]; unfold Ms.inAll; rw [hi_scope,hi_deref,hi_size]; rfl)
    clear hi_scope hi_deref hi_size
    go_wp2_with (first
     | (go_at_call 35; (with_reducible refine (HI_scope.out _).mono ?_); rintro e w1 ⟨rfl,rfl⟩)
     | (go_at_call 35; (with_reducible refine (HI_deref.out _).mono ?_); rintro e w1 ⟨rfl,rfl⟩)
     | (go_at_call 35; (with_reducible refine (HI_size.out _).mono ?_); rintro e w1 ⟨rfl,rfl⟩)
     | fail)
    go_ret
    exact ah HV6.out HBW4.out
   rw [hi_size] at HI_size
   have HI_time:=aa fun (W : World) => HIN.out M.time 2147483647 W
   obtain hi_time | hi_time : inB M.time 0 2147483647 = false \/ inB M.time 0 2147483647 = true:=by cases inB M.time 0 2147483647 <;> simp
   ·rw [hi_time] at HI_time
    have HV6:=aa (show r = false by rw [HV5.out]; unfold Ms.inAll; rw [hi_scope,hi_deref,hi_size,hi_time]; rfl)
    clear hi_scope hi_deref hi_size hi_time
    go_wp2_with (first
     | (go_at_call 35; (with_reducible refine (HI_scope.out _).mono ?_); rintro e w1 ⟨rfl,rfl⟩)
     | (go_at_call 35; (with_reducible refine (HI_deref.out _).mono ?_); rintro e w1 ⟨rfl,rfl⟩)
     | (go_at_call 35; (with_reducible refine (HI_size.out _).mono ?_); rintro e w1 ⟨rfl,rfl⟩)
     | (go_at_call 35; (with_reducible refine (HI_time.out _).mono ?_); rintro e w1 ⟨rfl,rfl⟩)
     | fail)
    go_ret
    exact ah HV6.out HBW4.out
   rw [hi_time] at HI_time
   have HI_other:=aa fun (W : World) => HIN.out M.other 2147483647 W
   obtain hi_other | hi_other : inB M.other 0 2147483647 = false \/ inB M.other 0 2147483647 = true:=by cases inB M.other 0 2147483647 <;> simp
   ·rw [hi_other] at HI_other
    have HV6:=aa (show r = false by rw [HV5.out]; unfold Ms.inAll; rw [hi_scope,hi_deref,hi_size,hi_time,hi_other]; rfl)
    clear hi_scope hi_deref hi_size hi_time hi_other
    go_wp2_with (first
     | (go_at_call 35; (with_reducible refine (HI_scope.out _).mono ?_); rintro e w1 ⟨rfl,rfl⟩)
     | (go_at_call 35; (with_reducible refine (HI_deref.out _).mono ?_); rintro e w1 ⟨rfl,rfl⟩)
     | (go_at_call 35; (with_reducible refine (HI_size.out _).mono ?_); rintro e w1 ⟨rfl,rfl⟩)
     | (go_at_call 35; (with_reducible refine (HI_time.out _).mono ?_); rintro e w1 ⟨rfl,rfl⟩)
     | (go_at_call 35; (with_reducible refine (HI_other.out _).mono ?_); rintro e w1 ⟨rfl,rfl⟩)
     | fail)
    go_ret
    exact ah HV6.out HBW4.out
   rw [hi_other] at HI_other
   have HI_code:=aa fun (W : World) => HIN.out M.code 127 W
   obtain hi_code | hi_code : inB M.code 0 127 = false \/ inB M.code 0 127 = true:=by cases inB M.code 0 127 <;> simp
   ·rw [hi_code] at HI_code
    have HV6:=aa (show r = false by rw [HV5.out]; unfold Ms.inAll; rw [hi_scope,hi_deref,hi_size,hi_time,hi_other,hi_code]; rfl)
    clear hi_scope hi_deref hi_size hi_time hi_other hi_code
    go_wp2_with (first
     | (go_at_call 35; (with_reducible refine (HI_scope.out _).mono ?_); rintro e w1 ⟨rfl,rfl⟩)
     | (go_at_call 35; (with_reducible refine (HI_deref.out _).mono ?_); rintro e w1 ⟨rfl,rfl⟩)
     | (go_at_call 35; (with_reducible refine (HI_size.out _).mono ?_); rintro e w1 ⟨rfl,rfl⟩)
     | (go_at_call 35; (with_reducible refine (HI_time.out _).mono ?_); rintro e w1 ⟨rfl,rfl⟩)
     | (go_at_call 35; (with_reducible refine (HI_other.out _).mono ?_); rintro e w1 ⟨rfl,rfl⟩)
     | (go_at_call 35; (with_reducible refine (HI_code.out _).mono ?_); rintro e w1 ⟨rfl,rfl⟩)
     | fail)
    go_ret
    exact ah HV6.out HBW4.out
   rw [hi_code] at HI_code
   have HV6:=aa (show r = true by rw [HV5.out]; unfold Ms.inAll; rw [hi_scope,hi_deref,hi_size,hi_time,hi_other,hi_code]; rfl)
   clear hi_scope hi_deref hi_size hi_time hi_other hi_code
   go_wp2_with (first
    | (go_at_call 35; (with_reducible refine (HI_scope.out _).mono ?_); rintro e w1 ⟨rfl,rfl⟩)
    | (go_at_call 35; (with_reducible refine (HI_deref.out _).mono ?_); rintro e w1 ⟨rfl,rfl⟩)
    | (go_at_call 35; (with_reducible refine (HI_size.out _).mono ?_); rintro e w1 ⟨rfl,rfl⟩)
    | (go_at_call 35; (with_reducible refine (HI_time.out _).mono ?_); rintro e w1 ⟨rfl,rfl⟩)
    | (go_at_call 35; (with_reducible refine (HI_other.out _).mono ?_); rintro e w1 ⟨rfl,rfl⟩)
    | (go_at_call 35; (with_reducible refine (HI_code.out _).mono ?_); rintro e w1 ⟨rfl,rfl⟩)
    | fail)
   go_ret
   exact ah HV6.out HBW4.out
theorem fP (M : Ms) (m : MC) (S : Nat -> Prop) (w : World) (h : MsAt w S M m) : Calls Tryz.prog 10 #[.agg m.cells] w (aq M.right w):=by
 rw [<- M.rright_eq]
 exact rright_any M m S w h
end Go.Proofs.YtbiglfpikfjbpaaGreatDoor
