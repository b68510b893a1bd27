import Derived.Test.YtbiglfpikfjbpaaGreatDoorM30
import Derived.Test.YtbiglfpikfjbpaaGreatDoorM39
import Derived.Deep.CutBlock
import Derived.OrdersHeld
import Derived.Test.YtbiglfpikfjbpaaGreatDoorM19
namespace Go.Proofs.YtbiglfpikfjbpaaGreatDoor
open Go.RowKit
set_option maxRecDepth 100000
set_option linter.unusedVariables false
set_option linter.unusedSimpArgs false
set_option maxHeartbeats 40000000
theorem tctl_text1 (d1 : ByteArray) (d2 d3 : Bool) (d4 : ByteArray) : d1.size < (PB.enc (tctl (d1,d2,d3,d4))).length:=by
 unfold tctl aI
 have h1:=aB 0 4 d1
 have h2:=bj 0 16 (tstr d1 :: ((if d2 then [bx true] else []) ++ (if d3 then [tstr d4] else [])))
 rw [ai] at h2
 have e1 : (PB.enc (tstr d1)).length = (PB.enc (.mk 0 false 4 d1 [])).length:=rfl
 simp only at h2 |-
 omega
theorem tctl_text4 (d1 : ByteArray) (d2 d3 : Bool) (d4 : ByteArray) (h : d3 = true) : d4.size < (PB.enc (tctl (d1,d2,d3,d4))).length:=by
 subst h
 unfold tctl aI
 have h1:=aB 0 4 d4
 have h2:=bj 0 16 (tstr d1 :: ((if d2 then [bx true] else []) ++ (if true then [tstr d4] else [])))
 rw [ai,bd,if_pos rfl,ai] at h2
 have e1 : (PB.enc (tstr d4)).length = (PB.enc (.mk 0 false 4 d4 [])).length:=rfl
 simp only [if_pos] at h2 |-
 omega
theorem rencode_right (M : Ms) (m : MC) (S : Nat -> Prop) (w : World) (h : MsAt w S M m) (hr : M.right = true) (hw : M.wt <= 40000) (hf : M.filter.wt <= 10000) :
  Calls Tryz.prog 8 #[.agg m.cells] w (fun e w' => Below w.heap.size w w' /\ e = .returned (.tuple #[.string (encS M.tree),.int .i64 (encE M.tree)])):=by
 have HSM:=aa aT
 have hkeep : ∀ W,Below w.heap.size w W -> MsAt W S M m:=fun W hb => h.keep hb.size (fun x _ hlt => hb.block x hlt) (fun _ h _ => h)
 have hrr:=hr
 unfold Ms.right at hrr
 simp only [Bool.and_eq_true] at hrr
 obtain ⟨-,hid,hrg,-⟩:=hrr
 have hid2:=inB_iff.1 hid
 have HOP:=aa fun (W : World) (hb : Below w.heap.size w W) => rop_any M m S W (hkeep W hb) hrg hw hf
 have HRT:=aa fun (W : World) (hb : Below w.heap.size w W) => (show Calls Tryz.prog 10 #[.agg m.cells] W (aq true W) by rw [<- hr]; exact fP M m S W (hkeep W hb))
 have HNU:=aa fun (W : World) => fe 2 M.id W (by omega) (by omega)
 have HEE:=aa (M.encE_tree hrg)
 have htl:=tree_len M hw hf
 have hol:=opT_len M
 have HLN:=aa (show (PB.enc M.tree).length < 4000000 from htl)
 have HLO:=aa (show (PB.enc M.opT).length < 4000000 by omega)
 have HLT:=aa (cH 2 M.id)
 obtain ⟨f,at',li,mo,de,co,hm,-,-,-,-,-,-,hco⟩:=h
 obtain ⟨⟨oA,on,oc⟩,hov⟩ : ∃ r,r = co:=⟨_,rfl⟩
 rw [<- hov] at hm hco
 obtain ⟨hm1,hm2,hm3,hm4⟩:=hco
 simp only at hm1 hm2 hm3 hm4
 subst hm1
 obtain ⟨cs,hcs⟩ : ∃ cs,cs = m.cells:=⟨_,rfl⟩
 have c0 : cs[0]? = some (.int .i64 M.id):=by rw [hcs,hm]; rfl
 have c30 : cs[30]? = some (.slice oA M.controls.length oc):=by rw [hcs,hm]; rfl
 have HSZ:=aa (show cs.size = 31 by rw [hcs]; exact cJ m)
 rw [<- hcs] at HOP HRT |-
 obtain ⟨wm,hwm⟩ : ∃ W,W = w.alloc (.cells cs 30):=⟨_,rfl⟩
 have hbx : Below w.heap.size w wm:=by rw [hwm]; exact (Below.refl w.heap.size w).alloc (Nat.le_refl _) _
 have hkx : Bk wm w.heap.size 30 cs:=by rw [hwm]; exact Bk.new w _ cs
 have HBX:=aa hbx
 have HKX:=aa hkx
 have HWM:=aa hwm
 have HC0:=aa c0
 have HC30:=aa c30
 have HM4:=aa hm4
 have HSI:=aa (show (Tryz.prog.info? 30).map (·.size) = some cs.size by rw [HSZ.out]; exact HSM.out)
 have hmm : oc <= 9223372036854775807:=by unfold maxLen at hm3; omega
 clear hcs hm hm3 hm4 hbx hkx hwm hkeep hr hw hf hid hid2 hrg htl hol c0 c30 hov
 go_enter Tryz.func8,Tryz.ntmps8
 go_upto_region 1 with fail
 rw [<- HWM.out]
 go_upto_region 3 with (first
  | (refine wpList_load_row rfl 30 (.tmp 1) rfl w.heap.size rfl 30 cs (0,0) _ ?_ Tryz.underlying30 rfl ?_ ?_; (exact HKX.out); (exact HSI.out))
  | (go_at_call 10; go_must (refine (HRT.out _ HBX.out).mono ?_); rintro e w1 ⟨rfl,hb1⟩; have HB1:=aa (HBX.out.trans (hb1.mono HBX.out.size)); have HK1:=aa (af HKX.out hb1); clear hb1)
  | fail)
 have HKS:=aa fun (W : World) (hb : Below w1.heap.size w1 W) => (show W.cell? ⟨w.heap.size,0,none⟩ = some (.int .i64 M.id) /\ W.heap[w.heap.size]? = some (.cells cs 30 (0,0)) from ⟨((af HK1.out hb).cell 0).trans HC0.out,af HK1.out hb⟩)
 have HBR:=aa (Below.refl w1.heap.size w1).drew
 refine wp_region_held_drew (S:=fun W => W.cell? ⟨w.heap.size,0,none⟩ = some (.int .i64 M.id) /\ W.heap[w.heap.size]? = some (.cells cs 30 (0,0))) (by kernel_rfl) (HKS.out _ HBR.out) (fun hHeld => ?_)
 refine wpAnyH_take (i:=0) (oi:={ dst:=some 11,op:=Op.fieldAddr 30 (Operand.tmp 1) 0,type:=0,pos:= "ref.go:251",after:=#[],guard:=none }) (v:=?_) rfl (by kernel_rfl) (by kernel_rfl) (by kernel_rfl) (fun _ _ _ h => h) (Or.inl ⟨by rfl,?_⟩) hHeld ?_
 rotate_left
 ·intro w5 hSw
  obtain ⟨hS0,-⟩:=hSw
  go_simp
  (try with_reducible rfl)
 try simp only [Act.put,List.setIfInBounds_toArray,List.set_cons_zero,List.set_cons_succ]
 refine wpAnyH_take (i:=1) (oi:={ dst:=some 12,op:=Op.load 3 (Operand.tmp 11),type:=3,pos:= "ref.go:251",after:=#[{ on:=0,ground:=Ground.data }],guard:=none }) (v:=?_) rfl (by kernel_rfl) (by kernel_rfl) (by kernel_rfl) (fun _ _ _ h => h) (Or.inl ⟨by rfl,?_⟩) hHeld ?_
 rotate_left
 ·intro w5 hSw
  obtain ⟨hS0,-⟩:=hSw
  go_simp
  (try with_reducible rfl)
 try simp only [Act.put,List.setIfInBounds_toArray,List.set_cons_zero,List.set_cons_succ]
 refine wpAnyH_take (i:=3) (oi:={ dst:=some 14,op:=Op.load 30 (Operand.tmp 1),type:=30,pos:= "ref.go:251",after:=#[],guard:=none }) (v:=.agg cs) rfl (by kernel_rfl) (by kernel_rfl) (by kernel_rfl) (fun _ _ _ h => h) (Or.inl ⟨by rfl,?_⟩) hHeld ?_
 ·intro w5 hSw
  exact ch _ _ _ _ rfl rfl hSw.2 Tryz.underlying30 rfl HSI.out
 try simp only [Act.put,List.setIfInBounds_toArray,List.set_cons_zero,List.set_cons_succ]
 refine wpAnyH_ready (rs:=[2]) (by kernel_rfl) (by simp) ?_
 refine AllReadyH.cons (o:={ dst:=some 13,op:=Op.call { callee:=Callee.value (Operand.func 24),args:=#[Operand.const (Value.int IntKind.i64 2),Operand.tmp 12],argTypes:=#[3,3] },type:=9,pos:= "ref.go:251",after:=#[{ on:=1,ground:=Ground.data }],guard:=none }) rfl (fun K hK => ?_) AllReadyH.nil
 go_simp
 (go_at_call 24)
 refine (HNU.out _).mono ?_
 rintro e w2 ⟨hb2,x2,rfl,hx2⟩
 have hn2:=ag HBR.out hb2
 have HX2:=aa hx2
 clear hx2 hb2
 go_wp2_with fail
 refine hK _ _ (HKS.out _ hn2) (fun hHeld2 => ?_)
 clear hK K hHeld
 have hHeld:=hHeld2
 clear hHeld2
 try simp only [Act.put,List.setIfInBounds_toArray,List.set_cons_zero,List.set_cons_succ]
 refine wpAnyH_ready (rs:=[4]) (by kernel_rfl) (by simp) ?_
 refine AllReadyH.cons (o:={ dst:=some 15,op:=Op.call { callee:=Callee.value (Operand.func 25),args:=#[Operand.tmp 14],argTypes:=#[30] },type:=9,pos:= "ref.go:251",after:=#[{ on:=3,ground:=Ground.data },{ on:=2,ground:=Ground.chain }],guard:=none }) rfl (fun K hK => ?_) AllReadyH.nil
 go_simp
 (go_at_call 25)
 refine (HOP.out _ (HB1.out.trans (hn2.mono HB1.out.size))).mono ?_
 rintro e w3 ⟨hb3,x3,rfl,hx3⟩
 have hn3:=ag hn2 hb3
 have HX3:=aa hx3
 obtain ⟨a1,E1,k1⟩:=cat HX2.out HX3.out (by have h1:=HLO.out; have h2:=HLT.out; omega)
 clear hx3 hb3
 go_wp2_with fail
 refine hK _ _ (HKS.out _ hn3) (fun hHeld2 => ?_)
 clear hK K hHeld
 have hHeld:=hHeld2
 clear hHeld2
 try simp only [Act.put,List.setIfInBounds_toArray,List.set_cons_zero,List.set_cons_succ]
 refine wpAnyH_take (i:=5) (oi:={ dst:=some 16,op:=Op.binOp BinOp.add 9 (Operand.tmp 13) (Operand.tmp 15) 9,type:=9,pos:= "ref.go:251",after:=#[{ on:=2,ground:=Ground.data },{ on:=4,ground:=Ground.data }],guard:=none }) (v:=?_) rfl (by kernel_rfl) (by kernel_rfl) (by kernel_rfl) (fun _ _ _ h => h) (Or.inl ⟨by rfl,?_⟩) hHeld ?_
 rotate_left
 ·intro w5 hSw
  obtain ⟨hS0,-⟩:=hSw
  go_simp
  (try with_reducible rfl)
 try simp only [Act.put,List.setIfInBounds_toArray,List.set_cons_zero,List.set_cons_succ]
 refine wpAnyH_take (i:=6) (oi:={ dst:=some 4,op:=Op.assign (Operand.tmp 16),type:=9,pos:= "ref.go:251",after:=#[{ on:=5,ground:=Ground.data },{ on:=4,ground:=Ground.chain },{ on:=0,ground:=Ground.phase },{ on:=1,ground:=Ground.phase },{ on:=2,ground:=Ground.phase },{ on:=3,ground:=Ground.phase },{ on:=4,ground:=Ground.phase },{ on:=5,ground:=Ground.phase }],guard:=none }) (v:=?_) rfl (by kernel_rfl) (by kernel_rfl) (by kernel_rfl) (fun _ _ _ h => h) (Or.inl ⟨by rfl,?_⟩) hHeld ?_
 rotate_left
 ·intro w5 hSw
  obtain ⟨hS0,-⟩:=hSw
  go_simp
  (try with_reducible rfl)
 try simp only [Act.put,List.setIfInBounds_toArray,List.set_cons_zero,List.set_cons_succ]
 refine wpAnyH_done (by kernel_rfl) ?_ _
 have HB3:=aa (HB1.out.trans (hn3.mono HB1.out.size))
 have HK3:=aa (af HK1.out hn3)
 have p30:=(HK3.out.cell 30).trans HC30.out
 have l3:=HK3.out.lt
 clear HKS HBR hn2 hn3 hHeld
 by_cases hc : M.controls = []
 ·have HTR:=aa (show PB.encs [tnum 2 M.id,M.opT] = a1.data.toList by rw [E1.out]; simp only [PB.encs,List.append_nil])
  have HTE:=aa (show M.tree = aI [tnum 2 M.id,M.opT] by unfold Ms.tree; rw [if_pos hc,List.append_nil])
  have z0 : M.controls.length = 0:=by rw [hc]; rfl
  rw [z0] at p30
  have HLI:=aa fun (W : World) => (show Calls Tryz.prog 28 #[.string a1] W (RefS (PB.enc M.tree) W) by
   rw [HTE.out]
   exact cT a1 _ W HTR.out.symm (by have h1:=HLN.out; rw [HTE.out] at h1; have h2:=bj 0 16 [tnum 2 M.id,M.opT]; unfold aI at h1; omega))
  clear hc z0
  go_wp2_with (first
   | (go_at_call 28; go_must (with_reducible refine (HLI.out _).mono ?_); rintro e w4 ⟨hb4,x4,rfl,hx4⟩; have HB4:=aa (HB3.out.trans (hb4.mono HB3.out.size)); have HX4:=aa hx4; clear hb4 hx4)
   | fail)
  ·rename_i h8
   have hsl : x4.size = (PB.enc M.tree).length:=aV HX4.out
   have HE:=aa (show encE M.tree = 5 by rw [HEE.out,if_pos (by omega)])
   clear h8 hsl
   go_ret2
   exact ⟨HB4.out,by rw [show encS M.tree = ⟨#[]⟩ by unfold encS; rw [HE.out]; rfl,HE.out]; rfl⟩
  ·rename_i h8
   have hsl : x4.size = (PB.enc M.tree).length:=aV HX4.out
   have HE:=aa (show encE M.tree = 0 by rw [HEE.out,if_neg (by omega)])
   have HES:=aa (show x4 = encS M.tree by unfold encS; rw [if_pos HE.out]; exact eo HX4.out)
   clear h8 hsl
   go_ret2
   exact ⟨HB4.out,by rw [HE.out,<- HES.out]; rfl⟩
 ·have hcl : (PB.encs (M.controls.map tctl)).length <= (PB.enc M.tree).length:=by
   have h1:=bj 2 0 (M.controls.map tctl)
   have h2 : (PB.enc (.mk 2 true 0 ⟨#[]⟩ (M.controls.map tctl))).length <= (PB.encs ([tnum 2 M.id,M.opT] ++ (if M.controls = [] then [] else [.mk 2 true 0 ⟨#[]⟩ (M.controls.map tctl)]))).length:=cQ (by rw [if_neg hc]; simp)
   have h3:=bj 0 16 ([tnum 2 M.id,M.opT] ++ (if M.controls = [] then [] else [.mk 2 true 0 ⟨#[]⟩ (M.controls.map tctl)]))
   unfold Ms.tree aI
   omega
  have HCL:=aa (show (PB.encs (M.controls.map tctl)).length < 4000000 by have:=HLN.out; omega)
  have HTE:=aa (show M.tree = aI [tnum 2 M.id,M.opT,.mk 2 true 0 ⟨#[]⟩ (M.controls.map tctl)] by unfold Ms.tree; rw [if_neg hc]; rfl)
  have z0 : decide ((0 : Int) < (M.controls.length : Int)) = true:=ab (by have : M.controls.length ≠ 0:=fun h => hc (List.eq_nil_of_length_eq_zero h); omega)
  have z0n : decide (0 < M.controls.length) = true:=ab (by have : M.controls.length ≠ 0:=fun h => hc (List.eq_nil_of_length_eq_zero h); omega)
  clear hc hcl
  go_wp2_with fail
  go_loopw [5,6] (fun u i wr => ∃ (j : Nat) (s : ByteArray),i = .int .i64 j /\ u = .string s /\ j <= M.controls.length /\ Hid (s.data.toList = PB.encs ((M.controls.take j).map tctl)) /\ Below w.heap.size w wr /\ Bk wr w.heap.size 30 cs) (fun _ i _ => M.controls.length - (intOf i).toNat)
  case atStart => exact ⟨0,⟨#[]⟩,rfl,rfl,Nat.zero_le _,by unfold Hid; simp [PB.encs],HB3.out,HK3.out⟩
  case round =>
   obtain ⟨j,s,rfl,rfl,hj,HS,hbw,hbk⟩:=hrel
   have HBW:=aa hbw
   have HBK:=aa hbk
   have p30:=(hbk.cell 30).trans HC30.out
   have l30:=hbk.lt
   by_cases hlt : j < M.controls.length
   ·have z1 : decide ((j : Int) < (M.controls.length : Int)) = true:=ab (by omega)
    have z1n : decide (j < M.controls.length) = true:=ab hlt
    have hx : M.controls[j]? = some M.controls[j]:=List.getElem?_eq_getElem hlt
    obtain ⟨b,o,c,rfl,hS,hc1,hcl,hfk⟩:=HM4.out j M.controls[j] hx
    obtain ⟨rfl,-,-⟩:=hfk
    have hmem:=List.getElem_mem hlt
    obtain ⟨d,hd⟩ : ∃ d,d = M.controls[j]:=⟨_,rfl⟩
    rw [<- hd] at hcl hx hmem
    have HXM:=aa (cM (tl:=tctl) hx)
    have hle : (PB.enc (tctl d)).length <= (PB.encs (M.controls.map tctl)).length:=cQ (List.mem_map_of_mem hmem)
    have htk : (PB.encs ((M.controls.take j).map tctl)).length <= (PB.encs (M.controls.map tctl)).length:=by rw [List.map_take]; exact cL _ _
    have HNJ:=aa (show (PB.encs ((M.controls.take j).map tctl)).length < 4000000 /\ (PB.enc (tctl d)).length < 4000000 by have:=HCL.out; omega)
    obtain ⟨d1,d2,d3,d4⟩:=d
    have HKC:=aa fun (W : World) (hb : Below wr.heap.size wr W) => (show W.cell? ⟨w.heap.size,30,none⟩ = some (.slice (some ⟨b,o,none⟩) M.controls.length oc) /\ W.cell? ⟨b,o + j * 4,none⟩ = some (.string d1) /\ W.cell? ⟨b,o + j * 4 + 1,none⟩ = some (.bool d2) /\ W.cell? ⟨b,o + j * 4 + 2,none⟩ = some (.bool d3) /\ W.cell? ⟨b,o + j * 4 + 3,none⟩ = some (.string d4) /\ w.heap.size < W.heap.size /\ b < W.heap.size from
     ⟨((af HBK.out hb).cell 30).trans HC30.out,((hbw.trans (hb.mono hbw.size)).cell (p:=⟨b,o + j * 4,none⟩) hS.2).trans (hcl 0 _ rfl),((hbw.trans (hb.mono hbw.size)).cell (p:=⟨b,o + j * 4 + 1,none⟩) hS.2).trans (hcl 1 _ rfl),((hbw.trans (hb.mono hbw.size)).cell (p:=⟨b,o + j * 4 + 2,none⟩) hS.2).trans (hcl 2 _ rfl),((hbw.trans (hb.mono hbw.size)).cell (p:=⟨b,o + j * 4 + 3,none⟩) hS.2).trans (hcl 3 _ rfl),(af HBK.out hb).lt,Nat.lt_of_lt_of_le hS.2 (hbw.trans (hb.mono hbw.size)).size⟩)
    obtain ⟨r30,r0,r1,r2,r3,r4,r5⟩:=HKC.out wr (Below.refl _ _)
    have hle1:=tctl_text1 d1 d2 d3 d4
    have HT1:=aa fun (W : World) => bf d1 W (by have:=HNJ.out.2; omega)
    have HT4:=aa fun (hd : d3 = true) (W : World) => bf d4 W (by have h1:=HNJ.out.2; have h2:=tctl_text4 d1 d2 d3 d4 hd; omega)
    have HTT:=aa fun (W : World) => t_truth true W
    clear hx hS hc1 hcl hd hmem hbw hbk hle htk p30 hle1
    cases d2 with
    | false =>
     cases d3 with
     | false =>
      have HTC:=aa (show tctl (d1,false,false,d4) = aI [tstr d1] from rfl)
      have HSZ9:=aa (show (PB.encs [tstr d1]).length < 4000000 by have h1:=HNJ.out.2; rw [HTC.out] at h1; have h2:=bj 0 16 [tstr d1]; unfold aI at h1; omega)
      have HLI:=aa fun (a : ByteArray) (ha : a.data.toList = PB.encs [tstr d1]) (W : World) => cT a _ W ha (by have:=HSZ9.out; omega)
      go_wp2_with (first
       | (go_at_call 26; (with_reducible refine (HT1.out _).mono ?_); rintro e v1 ⟨hv1,x1,rfl,hx1⟩; have hn1:=hv1; have HX1:=aa hx1; obtain ⟨r30,r0,r1,r2,r3,r4,r5⟩:=HKC.out _ hn1; clear hx1 hv1)
       | (go_at_call 28; go_must (with_reducible refine (HLI.out x1 (by rw [HX1.out]; simp only [PB.encs,List.append_assoc,List.append_nil]) _).mono ?_); rintro e v4 ⟨hv4,x4,rfl,hx4⟩; have hn4:=ag hn1 hv4; have HX4:=aa hx4; obtain ⟨b4,F4,g4⟩:=cat HS.out HX4.out (by have h1:=HNJ.out; rw [HTC.out] at h1; omega); clear hx4 hv4)
       | fail)
      have HB9:=aa (HBW.out.trans (hn4.mono HBW.out.size))
      have HK9:=aa (af HBK.out hn4)
      go_roundw
      case rel => first | exact ⟨j + 1,b4,by go_num,rfl,by omega,by unfold Hid; rw [F4.out,HXM.out,HTC.out],HB9.out,HK9.out⟩ | ((repeat apply Exists.intro); refine ⟨?_,rfl⟩; exact ⟨j + 1,b4,by go_num,rfl,by omega,by unfold Hid; rw [F4.out,HXM.out,HTC.out],HB9.out,HK9.out⟩)
      case measure => simp [intOf]; omega
     | true =>
      have HTC:=aa (show tctl (d1,false,true,d4) = aI [tstr d1,tstr d4] from rfl)
      have HSZ9:=aa (show (PB.encs [tstr d1,tstr d4]).length < 4000000 by have h1:=HNJ.out.2; rw [HTC.out] at h1; have h2:=bj 0 16 [tstr d1,tstr d4]; unfold aI at h1; omega)
      have HLI:=aa fun (a : ByteArray) (ha : a.data.toList = PB.encs [tstr d1,tstr d4]) (W : World) => cT a _ W ha (by have:=HSZ9.out; omega)
      go_wp2_with (first
       | (go_at_call 26; (with_reducible refine (HT1.out _).mono ?_); rintro e v1 ⟨hv1,x1,rfl,hx1⟩; have hn1:=hv1; have HX1:=aa hx1; obtain ⟨r30,r0,r1,r2,r3,r4,r5⟩:=HKC.out _ hn1; clear hx1 hv1)
       | (go_at_call 26; go_must (with_reducible refine (HT4.out (by trivial) _).mono ?_); rintro e v3 ⟨hv3,x3,rfl,hx3⟩; have hn3:=ag hn1 hv3; have HX3:=aa hx3; obtain ⟨b3,F3,g3⟩:=cat HX1.out HX3.out (by have h9:=HSZ9.out; simp only [PB.encs,List.length_append,List.length_nil] at h9 |-; omega); obtain ⟨r30,r0,r1,r2,r3,r4,r5⟩:=HKC.out _ hn3; clear hx3 hv3)
       | (go_at_call 28; go_must (with_reducible refine (HLI.out b3 (by rw [F3.out]; simp only [PB.encs,List.append_assoc,List.append_nil]) _).mono ?_); rintro e v4 ⟨hv4,x4,rfl,hx4⟩; have hn4:=ag hn3 hv4; have HX4:=aa hx4; obtain ⟨b4,F4,g4⟩:=cat HS.out HX4.out (by have h1:=HNJ.out; rw [HTC.out] at h1; omega); clear hx4 hv4)
       | fail)
      have HB9:=aa (HBW.out.trans (hn4.mono HBW.out.size))
      have HK9:=aa (af HBK.out hn4)
      go_roundw
      case rel => first | exact ⟨j + 1,b4,by go_num,rfl,by omega,by unfold Hid; rw [F4.out,HXM.out,HTC.out],HB9.out,HK9.out⟩ | ((repeat apply Exists.intro); refine ⟨?_,rfl⟩; exact ⟨j + 1,b4,by go_num,rfl,by omega,by unfold Hid; rw [F4.out,HXM.out,HTC.out],HB9.out,HK9.out⟩)
      case measure => simp [intOf]; omega
    | true =>
     cases d3 with
     | false =>
      have HTC:=aa (show tctl (d1,true,false,d4) = aI [tstr d1,bx true] from rfl)
      have HSZ9:=aa (show (PB.encs [tstr d1,bx true]).length < 4000000 by have h1:=HNJ.out.2; rw [HTC.out] at h1; have h2:=bj 0 16 [tstr d1,bx true]; unfold aI at h1; omega)
      have HLI:=aa fun (a : ByteArray) (ha : a.data.toList = PB.encs [tstr d1,bx true]) (W : World) => cT a _ W ha (by have:=HSZ9.out; omega)
      go_wp2_with (first
       | (go_at_call 26; (with_reducible refine (HT1.out _).mono ?_); rintro e v1 ⟨hv1,x1,rfl,hx1⟩; have hn1:=hv1; have HX1:=aa hx1; obtain ⟨r30,r0,r1,r2,r3,r4,r5⟩:=HKC.out _ hn1; clear hx1 hv1)
       | (go_at_call 27; (with_reducible refine (HTT.out _).mono ?_); rintro e v2 ⟨hv2,x2,rfl,hx2⟩; have hn2:=ag hn1 hv2; have HX2:=aa hx2; obtain ⟨b2,F2,g2⟩:=cat HX1.out HX2.out (by have h9:=HSZ9.out; simp only [PB.encs,List.length_append,List.length_nil] at h9 |-; omega); obtain ⟨r30,r0,r1,r2,r3,r4,r5⟩:=HKC.out _ hn2; clear hx2 hv2)
       | (go_at_call 28; go_must (with_reducible refine (HLI.out b2 (by rw [F2.out]; simp only [PB.encs,List.append_assoc,List.append_nil]) _).mono ?_); rintro e v4 ⟨hv4,x4,rfl,hx4⟩; have hn4:=ag hn2 hv4; have HX4:=aa hx4; obtain ⟨b4,F4,g4⟩:=cat HS.out HX4.out (by have h1:=HNJ.out; rw [HTC.out] at h1; omega); clear hx4 hv4)
       | fail)
      have HB9:=aa (HBW.out.trans (hn4.mono HBW.out.size))
      have HK9:=aa (af HBK.out hn4)
      go_roundw
      case rel => first | exact ⟨j + 1,b4,by go_num,rfl,by omega,by unfold Hid; rw [F4.out,HXM.out,HTC.out],HB9.out,HK9.out⟩ | ((repeat apply Exists.intro); refine ⟨?_,rfl⟩; exact ⟨j + 1,b4,by go_num,rfl,by omega,by unfold Hid; rw [F4.out,HXM.out,HTC.out],HB9.out,HK9.out⟩)
      case measure => simp [intOf]; omega
     | true =>
      have HTC:=aa (show tctl (d1,true,true,d4) = aI [tstr d1,bx true,tstr d4] from rfl)
      have HSZ9:=aa (show (PB.encs [tstr d1,bx true,tstr d4]).length < 4000000 by have h1:=HNJ.out.2; rw [HTC.out] at h1; have h2:=bj 0 16 [tstr d1,bx true,tstr d4]; unfold aI at h1; omega)
      have HLI:=aa fun (a : ByteArray) (ha : a.data.toList = PB.encs [tstr d1,bx true,tstr d4]) (W : World) => cT a _ W ha (by have:=HSZ9.out; omega)
      go_wp2_with (first
       | (go_at_call 26; (with_reducible refine (HT1.out _).mono ?_); rintro e v1 ⟨hv1,x1,rfl,hx1⟩; have hn1:=hv1; have HX1:=aa hx1; obtain ⟨r30,r0,r1,r2,r3,r4,r5⟩:=HKC.out _ hn1; clear hx1 hv1)
       | (go_at_call 27; (with_reducible refine (HTT.out _).mono ?_); rintro e v2 ⟨hv2,x2,rfl,hx2⟩; have hn2:=ag hn1 hv2; have HX2:=aa hx2; obtain ⟨b2,F2,g2⟩:=cat HX1.out HX2.out (by have h9:=HSZ9.out; simp only [PB.encs,List.length_append,List.length_nil] at h9 |-; omega); obtain ⟨r30,r0,r1,r2,r3,r4,r5⟩:=HKC.out _ hn2; clear hx2 hv2)
       | (go_at_call 26; go_must (with_reducible refine (HT4.out (by trivial) _).mono ?_); rintro e v3 ⟨hv3,x3,rfl,hx3⟩; have hn3:=ag hn2 hv3; have HX3:=aa hx3; obtain ⟨b3,F3,g3⟩:=cat F2.out HX3.out (by have h9:=HSZ9.out; simp only [PB.encs,List.length_append,List.length_nil] at h9 |-; omega); obtain ⟨r30,r0,r1,r2,r3,r4,r5⟩:=HKC.out _ hn3; clear hx3 hv3)
       | (go_at_call 28; go_must (with_reducible refine (HLI.out b3 (by rw [F3.out]; simp only [PB.encs,List.append_assoc,List.append_nil]) _).mono ?_); rintro e v4 ⟨hv4,x4,rfl,hx4⟩; have hn4:=ag hn3 hv4; have HX4:=aa hx4; obtain ⟨b4,F4,g4⟩:=cat HS.out HX4.out (by have h1:=HNJ.out; rw [HTC.out] at h1; omega); clear hx4 hv4)
       | fail)
      have HB9:=aa (HBW.out.trans (hn4.mono HBW.out.size))
      have HK9:=aa (af HBK.out hn4)
      go_roundw
      case rel => first | exact ⟨j + 1,b4,by go_num,rfl,by omega,by unfold Hid; rw [F4.out,HXM.out,HTC.out],HB9.out,HK9.out⟩ | ((repeat apply Exists.intro); refine ⟨?_,rfl⟩; exact ⟨j + 1,b4,by go_num,rfl,by omega,by unfold Hid; rw [F4.out,HXM.out,HTC.out],HB9.out,HK9.out⟩)
      case measure => simp [intOf]; omega
   have z1 : decide ((j : Int) < (M.controls.length : Int)) = false:=ae (by omega)
   have z1n : decide (j < M.controls.length) = false:=ae (by omega)
   have HSF:=aa (show s.data.toList = PB.encs (M.controls.map tctl) by rw [HS.out,List.take_of_length_le (by omega)])
   have HND:=aa fun (W : World) => cK 2 0 s (M.controls.map tctl) W (by omega) (by omega) HSF.out (by have:=HCL.out; omega)
   have HLI:=aa fun (a : ByteArray) (ha : a.data.toList = PB.encs [tnum 2 M.id,M.opT,.mk 2 true 0 ⟨#[]⟩ (M.controls.map tctl)]) (W : World) => (show Calls Tryz.prog 28 #[.string a] W (RefS (PB.enc M.tree) W) by
    rw [HTE.out]
    exact cT a _ W ha (by have h1:=HLN.out; rw [HTE.out] at h1; have h2:=bj 0 16 [tnum 2 M.id,M.opT,.mk 2 true 0 ⟨#[]⟩ (M.controls.map tctl)]; unfold aI at h1; omega))
   have HLC:=aa (show (PB.enc (.mk 2 true 0 ⟨#[]⟩ (M.controls.map tctl))).length < 5000000 by have h1:=cI 2 0 (M.controls.map tctl); have:=HCL.out; omega)
   clear hbw hbk hlt
   go_wp2_with (first
    | (go_at_call 29; go_must (with_reducible refine (HND.out _).mono ?_); rintro e w5 ⟨hb5,x5,rfl,hx5⟩; have HB5:=aa (HBW.out.trans (hb5.mono HBW.out.size)); have HX5:=aa hx5; obtain ⟨a2,E2,k2⟩:=cat E1.out HX5.out (by have h1:=HLO.out; have h2:=HLT.out; have h3:=HLC.out; simp only [List.length_append]; omega); clear hb5 hx5)
    | (go_at_call 28; go_must (with_reducible refine (HLI.out a2 (by rw [E2.out]; simp only [PB.encs,List.append_assoc,List.append_nil]) _).mono ?_); rintro e w4 ⟨hb4,x4,rfl,hx4⟩; have HB4:=aa (HB5.out.trans (hb4.mono HB5.out.size)); have HX4:=aa hx4; clear hb4 hx4)
    | fail)
   ·rename_i h8
    have hsl : x4.size = (PB.enc M.tree).length:=aV HX4.out
    have HE:=aa (show encE M.tree = 5 by rw [HEE.out,if_pos (by omega)])
    clear h8 hsl
    go_ret2
    exact ⟨HB4.out,by rw [show encS M.tree = ⟨#[]⟩ by unfold encS; rw [HE.out]; rfl,HE.out]; rfl⟩
   ·rename_i h8
    have hsl : x4.size = (PB.enc M.tree).length:=aV HX4.out
    have HE:=aa (show encE M.tree = 0 by rw [HEE.out,if_neg (by omega)])
    have HES:=aa (show x4 = encS M.tree by unfold encS; rw [if_pos HE.out]; exact eo HX4.out)
    clear h8 hsl
    go_ret2
    exact ⟨HB4.out,by rw [HE.out,<- HES.out]; rfl⟩
theorem rencode_no (M : Ms) (m : MC) (S : Nat -> Prop) (w : World) (h : MsAt w S M m) (hr : M.right = false) :
  Calls Tryz.prog 8 #[.agg m.cells] w (fun e w' => Below w.heap.size w w' /\ e = .returned (.tuple #[.string ⟨#[]⟩,.int .i64 4])):=by
 have HS:=aa aT
 obtain ⟨cs,hcs⟩ : ∃ cs,cs = m.cells:=⟨_,rfl⟩
 have HSZ : Hid (cs.size = 31):=by rw [hcs]; rfl
 rw [<- hcs]
 have hB:=(Below.refl w.heap.size w).alloc (Nat.le_refl _) (.cells cs 30)
 have HB:=aa hB
 have HBK:=aa (Bk.new w 30 cs)
 have HRT:=aa (show Calls Tryz.prog 10 #[.agg cs] (w.alloc (.cells cs 30)) (aq false _) by
  have:=fP M m S _ (h.keep hB.size (fun x _ hlt => hB.block x hlt) (fun _ h _ => h)); rwa [hr,<- hcs] at this)
 clear hcs hB h hr
 go_enter Tryz.func8,Tryz.ntmps8
 go_wp2_with (first
  | (refine wpList_load_row rfl 30 (.tmp 1) rfl w.heap.size rfl 30 cs (0,0) _ HBK.out Tryz.underlying30 rfl (by rw [HSZ.out]; exact HS.out) ?_)
  | (go_at_call 10; refine HRT.out.mono ?_; rintro e w1 ⟨rfl,hb1⟩; have HB1:=aa (HB.out.trans (hb1.mono HB.out.size)); clear hb1)
  | fail)
 go_ret2
 exact ⟨HB1.out,rfl⟩
theorem rencode_any (M : Ms) (m : MC) (S : Nat -> Prop) (w : World) (h : MsAt w S M m) (hw : M.wt <= 40000) (hf : M.filter.wt <= 10000) : Calls Tryz.prog 8 #[.agg m.cells] w (fp M w):=by
 cases hr : M.right with
 | true => exact (rencode_right M m S w h hr hw hf).mono fun e w' ⟨h1,h2⟩ => ⟨h1,.inl ⟨hr,h2⟩⟩
 | false => exact (rencode_no M m S w h hr).mono fun e w' ⟨h1,h2⟩ => ⟨h1,.inr ⟨hr,h2⟩⟩
theorem msgEncodes_any (hsame : SameOk) (M : Ms) (m : MC) (S : Nat -> Prop) (w : World) (h : MsAt w S M m) (ha : AnsAt w) : Calls Tryz.prog 3 #[.agg m.cells] w (Holds w):=by
 have HS:=aa aT
 obtain ⟨cs,hcs⟩ : ∃ cs,cs = m.cells:=⟨_,rfl⟩
 have HSZ : Hid (cs.size = 31):=by rw [hcs]; rfl
 rw [<- hcs]
 have hB:=(Below.refl w.heap.size w).alloc (Nat.le_refl _) (.cells cs 30)
 have hk:=Bk.new w 30 cs
 obtain ⟨wm,hwm⟩ : ∃ W,W = w.alloc (.cells cs 30):=⟨_,rfl⟩
 rw [<- hwm] at hB hk
 have HB:=aa hB
 have HK:=aa hk
 have HWC:=aa hwm
 have H1:=aa (awake26 wm (ha.below hB))
 have HM:=aa fun (W : World) (hb : Below w.heap.size w W) => (h.keep (T:=S) hb.size (fun x _ hlt => hb.block x hlt) (fun _ h _ => h))
 have HCS:=aa hcs
 have HW:=aa fun (W : World) (hb : Below w.heap.size w W) => (show Calls Tryz.prog 6 #[.agg cs] W (WgPost2 M W) by
  rw [hcs]; exact weighM2_any M m S W (HM.out W hb))
 have HE:=aa fun (W : World) (hb : Below w.heap.size w W) (hs : M.small) => (show Calls Tryz.prog 7 #[.agg cs] W (fp M W) by
  rw [hcs]; exact mencode_any M m S W (HM.out W hb) (ha.below hb) hs)
 have HRE:=aa fun (W : World) (hb : Below w.heap.size w W) (hw : M.wt <= 40000) (hf : M.filter.wt <= 5000) => (show Calls Tryz.prog 8 #[.agg cs] W (fp M W) by
  rw [hcs]; exact rencode_any M m S W (HM.out W hb) hw (by omega))
 have HR1:=aa fun (W : World) (hb : Below w.heap.size w W) => (show Calls Tryz.prog 9 #[.agg cs] W (aq M.right W) by
  rw [hcs]; exact ca M m S W (HM.out W hb) (ha.below hb))
 have HR2:=aa fun (W : World) (hb : Below w.heap.size w W) => (show Calls Tryz.prog 10 #[.agg cs] W (aq M.right W) by
  rw [hcs]; exact fP M m S W (HM.out W hb))
 have HSI:=aa (show (Tryz.prog.info? 30).map (·.size) = some cs.size by rw [HSZ.out]; exact HS.out)
 have HA:=aa ha
 have HSAME:=aa hsame
 clear hcs hB hk hwm h ha hsame
 go_enter Tryz.func3,Tryz.ntmps3
 go_wp2_with (first
  | (go_at_call 5; rw [<- HWC.out]; refine H1.out.mono ?_; rintro e w1 ⟨rfl,hb1⟩; have HB1:=aa (HB.out.trans (hb1.mono HB.out.size)); have HK1:=aa (af HK.out hb1); clear hb1)
  | (refine wpList_load_row rfl 30 (.tmp 1) rfl w.heap.size rfl 30 cs (0,0) _ HK1.out Tryz.underlying30 rfl HSI.out ?_)
  | fail)
 (go_at_call 6)
 refine (HW.out _ HB1.out).mono ?_
 rintro e w2 ⟨hb2,k,rfl,hkk⟩
 have HB2:=aa (HB1.out.trans (hb2.mono HB1.out.size))
 have HK2:=aa (af HK1.out hb2)
 clear hb2
 by_cases hk4 : 40000 < k
 ·have z1 : decide (40000 < k) = true:=ab hk4
  go_wp2_with fail
  go_ret
  exact ⟨rfl,HB2.out⟩
 have z1 : decide (40000 < k) = false:=ae hk4
 have hkw:=hkk (by omega)
 have HCE:=aa (HE.out _ HB2.out (Ms.wt_small hkw.1))
 have HWT:=aa hkw
 clear hk4 hkk hkw
 go_wp2_with (first
  | (refine wpList_load_row rfl 30 (.tmp 1) rfl w.heap.size rfl 30 cs (0,0) _ HK2.out Tryz.underlying30 rfl HSI.out ?_)
  | fail)
 (go_at_call 7)
 refine HCE.out.mono ?_
 rintro e w3 ⟨hb3,hor⟩
 have HB3:=aa (HB2.out.trans (hb3.mono HB2.out.size))
 have HK3:=aa (af HK2.out hb3)
 clear hb3
 obtain ⟨sv,ev,rfl,hsv⟩ : ∃ (sv : ByteArray) (ev : Int),e = .returned (.tuple #[.string sv,.int .i64 ev]) /\ ((M.right = true /\ sv = encS M.tree /\ ev = encE M.tree) \/ (M.right = false /\ sv = ⟨#[]⟩ /\ ev = 4)):=by
  rcases hor with ⟨hr,rfl⟩ | ⟨hr,rfl⟩
  ·exact ⟨_,_,rfl,.inl ⟨hr,rfl,rfl⟩⟩
  ·exact ⟨_,_,rfl,.inr ⟨hr,rfl,rfl⟩⟩
 have HSV:=aa hsv
 clear hor hsv
 go_wp2_with (first
  | (refine wpList_load_row rfl 30 (.tmp 1) rfl w.heap.size rfl 30 cs (0,0) _ HK3.out Tryz.underlying30 rfl HSI.out ?_)
  | fail)
 (go_at_call 8)
 refine (HRE.out _ HB3.out HWT.out.1 HWT.out.2).mono ?_
 rintro e w4 ⟨hb4,hor⟩
 have HB4:=aa (HB3.out.trans (hb4.mono HB3.out.size))
 have HK4:=aa (af HK3.out hb4)
 clear hb4
 obtain rfl : e = .returned (.tuple #[.string sv,.int .i64 ev]):=by
  rcases hor with ⟨hr,rfl⟩ | ⟨hr,rfl⟩ <;> rcases HSV.out with ⟨h1,rfl,rfl⟩ | ⟨h1,rfl,rfl⟩
  ·rfl
  ·rw [hr] at h1; cases h1
  ·rw [hr] at h1; cases h1
  ·rfl
 clear hor
 go_upto_region 7 with fail
 have hsvt : (sv.toList == sv.toList) = true:=by simp
 have hev : (ev != ev) = false:=by simp
 obtain ⟨rt,hrt⟩ : ∃ b,b = M.right:=⟨_,rfl⟩
 have HRW:=aa (show M.right = rt from hrt.symm)
 rw [<- hrt] at HR1 HR2 HSV
 clear hrt
 have hrr : (rt != rt) = false:=by simp
 have HKS:=aa fun (W : World) (hb : Below w4.heap.size w4 W) => (show W.heap[w.heap.size]? = some (.cells cs 30 (0,0)) from af HK4.out hb)
 have HBR:=aa (Below.refl w4.heap.size w4).drew
 refine wp_region_held_drew (S:=fun W => W.heap[w.heap.size]? = some (.cells cs 30 (0,0))) (by kernel_rfl) (HKS.out _ HBR.out) (fun hHeld => ?_)
 refine wpAnyH_take (i:=0) (oi:={ dst:=some 24,op:=Op.move (Operand.tmp 3),type:=9,pos:= "law.go:28",after:=#[],guard:=none }) (v:=?_) rfl (by kernel_rfl) (by kernel_rfl) (by kernel_rfl) (fun _ _ _ h => h) (Or.inl ⟨by rfl,?_⟩) hHeld ?_
 rotate_left
 ·intro w5 hSw
  clear hSw
  go_simp
  (try with_reducible rfl)
 try simp only [Act.put,List.setIfInBounds_toArray,List.set_cons_zero,List.set_cons_succ]
 refine wpAnyH_take (i:=1) (oi:={ dst:=some 25,op:=Op.move (Operand.tmp 5),type:=9,pos:= "law.go:28",after:=#[],guard:=none }) (v:=?_) rfl (by kernel_rfl) (by kernel_rfl) (by kernel_rfl) (fun _ _ _ h => h) (Or.inl ⟨by rfl,?_⟩) hHeld ?_
 rotate_left
 ·intro w5 hSw
  clear hSw
  go_simp
  (try with_reducible rfl)
 try simp only [Act.put,List.setIfInBounds_toArray,List.set_cons_zero,List.set_cons_succ]
 refine wpAnyH_take (i:=2) (oi:={ dst:=some 26,op:=Op.binOp BinOp.neq 9 (Operand.tmp 24) (Operand.tmp 25) 9,type:=4,pos:= "law.go:28",after:=#[{ on:=0,ground:=Ground.data },{ on:=1,ground:=Ground.data }],guard:=none }) (v:=?_) rfl (by kernel_rfl) (by kernel_rfl) (by kernel_rfl) (fun _ _ _ h => h) (Or.inl ⟨by rfl,?_⟩) hHeld ?_
 rotate_left
 ·intro w5 hSw
  clear hSw
  go_simp
  (try with_reducible rfl)
 try simp only [Act.put,List.setIfInBounds_toArray,List.set_cons_zero,List.set_cons_succ]
 refine wpAnyH_take (i:=3) (oi:={ dst:=some 27,op:=Op.move (Operand.tmp 26),type:=4,pos:= "law.go:28",after:=#[{ on:=2,ground:=Ground.data }],guard:=none }) (v:=?_) rfl (by kernel_rfl) (by kernel_rfl) (by kernel_rfl) (fun _ _ _ h => h) (Or.inl ⟨by rfl,?_⟩) hHeld ?_
 rotate_left
 ·intro w5 hSw
  clear hSw
  go_simp
  (try with_reducible rfl)
 try simp only [Act.put,List.setIfInBounds_toArray,List.set_cons_zero,List.set_cons_succ]
 refine wpAnyH_take (i:=4) (oi:={ dst:=some 28,op:=Op.move (Operand.tmp 4),type:=33,pos:= "law.go:28",after:=#[{ on:=3,ground:=Ground.guard }],guard:=some (3,false) }) (v:=?_) rfl (by kernel_rfl) (by kernel_rfl) (by kernel_rfl) (fun _ _ _ h => h) (Or.inl ⟨by rfl,?_⟩) hHeld ?_
 rotate_left
 ·intro w5 hSw
  clear hSw
  go_simp
  (try with_reducible rfl)
 try simp only [Act.put,List.setIfInBounds_toArray,List.set_cons_zero,List.set_cons_succ]
 refine wpAnyH_take (i:=5) (oi:={ dst:=some 29,op:=Op.move (Operand.tmp 6),type:=33,pos:= "law.go:28",after:=#[{ on:=3,ground:=Ground.guard }],guard:=some (3,false) }) (v:=?_) rfl (by kernel_rfl) (by kernel_rfl) (by kernel_rfl) (fun _ _ _ h => h) (Or.inl ⟨by rfl,?_⟩) hHeld ?_
 rotate_left
 ·intro w5 hSw
  clear hSw
  go_simp
  (try with_reducible rfl)
 try simp only [Act.put,List.setIfInBounds_toArray,List.set_cons_zero,List.set_cons_succ]
 refine wpAnyH_take (i:=6) (oi:={ dst:=some 30,op:=Op.binOp BinOp.neq 33 (Operand.tmp 28) (Operand.tmp 29) 33,type:=4,pos:= "law.go:28",after:=#[{ on:=4,ground:=Ground.data },{ on:=5,ground:=Ground.data },{ on:=3,ground:=Ground.guard }],guard:=some (3,false) }) (v:=?_) rfl (by kernel_rfl) (by kernel_rfl) (by kernel_rfl) (fun _ _ _ h => h) (Or.inl ⟨by rfl,?_⟩) hHeld ?_
 rotate_left
 ·intro w5 hSw
  clear hSw
  go_simp
  (try with_reducible rfl)
 try simp only [Act.put,List.setIfInBounds_toArray,List.set_cons_zero,List.set_cons_succ]
 refine wpAnyH_take (i:=7) (oi:={ dst:=some 31,op:=Op.pick (Operand.tmp 27) (Operand.const (Value.bool true)) (Operand.tmp 30),type:=4,pos:= "law.go:28",after:=#[{ on:=3,ground:=Ground.data },{ on:=6,ground:=Ground.data }],guard:=none }) (v:=?_) rfl (by kernel_rfl) (by kernel_rfl) (by kernel_rfl) (fun _ _ _ h => h) (Or.inl ⟨by rfl,?_⟩) hHeld ?_
 rotate_left
 ·intro w5 hSw
  clear hSw
  go_simp
  (try with_reducible rfl)
 try simp only [Act.put,List.setIfInBounds_toArray,List.set_cons_zero,List.set_cons_succ]
 refine wpAnyH_take (i:=8) (oi:={ dst:=some 32,op:=Op.move (Operand.tmp 31),type:=4,pos:= "law.go:28",after:=#[{ on:=7,ground:=Ground.data },{ on:=3,ground:=Ground.chain }],guard:=none }) (v:=?_) rfl (by kernel_rfl) (by kernel_rfl) (by kernel_rfl) (fun _ _ _ h => h) (Or.inl ⟨by rfl,?_⟩) hHeld ?_
 rotate_left
 ·intro w5 hSw
  clear hSw
  go_simp
  (try with_reducible rfl)
 try simp only [Act.put,List.setIfInBounds_toArray,List.set_cons_zero,List.set_cons_succ]
 refine wpAnyH_take (i:=9) (oi:={ dst:=some 33,op:=Op.load 30 (Operand.tmp 1),type:=30,pos:= "law.go:28",after:=#[{ on:=8,ground:=Ground.guard }],guard:=some (8,false) }) (v:=.agg cs) rfl (by kernel_rfl) (by kernel_rfl) (by kernel_rfl) (fun _ _ _ h => h) (Or.inl ⟨by rfl,?_⟩) hHeld ?_
 ·intro w5 hSw
  exact ch _ _ _ _ rfl rfl hSw Tryz.underlying30 rfl HSI.out
 try simp only [Act.put,List.setIfInBounds_toArray,List.set_cons_zero,List.set_cons_succ]
 refine wpAnyH_take (i:=11) (oi:={ dst:=some 35,op:=Op.load 30 (Operand.tmp 1),type:=30,pos:= "law.go:28",after:=#[{ on:=8,ground:=Ground.guard }],guard:=some (8,false) }) (v:=.agg cs) rfl (by kernel_rfl) (by kernel_rfl) (by kernel_rfl) (fun _ _ _ h => h) (Or.inl ⟨by rfl,?_⟩) hHeld ?_
 ·intro w5 hSw
  exact ch _ _ _ _ rfl rfl hSw Tryz.underlying30 rfl HSI.out
 try simp only [Act.put,List.setIfInBounds_toArray,List.set_cons_zero,List.set_cons_succ]
 refine wpAnyH_ready (rs:=[10]) (by kernel_rfl) (by simp) ?_
 refine AllReadyH.cons (o:={ dst:=some 34,op:=Op.call { callee:=Callee.value (Operand.func 9),args:=#[Operand.tmp 33],argTypes:=#[30] },type:=4,pos:= "law.go:28",after:=#[{ on:=9,ground:=Ground.data },{ on:=8,ground:=Ground.chain },{ on:=8,ground:=Ground.guard }],guard:=some (8,false) }) rfl (fun K hK => ?_) AllReadyH.nil
 go_simp
 (go_at_call 9)
 refine (HR1.out _ (HB4.out.trans (HBR.out.mono HB4.out.size))).mono ?_
 rintro e w5 ⟨rfl,hb5⟩
 have hn5:=ag HBR.out hb5
 go_wp2_with fail
 refine hK _ _ (HKS.out _ hn5) (fun hHeld2 => ?_)
 clear hK K hHeld
 have hHeld:=hHeld2
 clear hHeld2
 try simp only [Act.put,List.setIfInBounds_toArray,List.set_cons_zero,List.set_cons_succ]
 refine wpAnyH_ready (rs:=[12]) (by kernel_rfl) (by simp) ?_
 refine AllReadyH.cons (o:={ dst:=some 36,op:=Op.call { callee:=Callee.value (Operand.func 10),args:=#[Operand.tmp 35],argTypes:=#[30] },type:=4,pos:= "law.go:28",after:=#[{ on:=11,ground:=Ground.data },{ on:=10,ground:=Ground.chain },{ on:=8,ground:=Ground.guard }],guard:=some (8,false) }) rfl (fun K hK => ?_) AllReadyH.nil
 go_simp
 (go_at_call 10)
 refine (HR2.out _ (HB4.out.trans (hn5.mono HB4.out.size))).mono ?_
 rintro e w6 ⟨rfl,hb6⟩
 have hn6:=ag hn5 hb6
 go_wp2_with fail
 refine hK _ _ (HKS.out _ hn6) (fun hHeld2 => ?_)
 clear hK K hHeld
 have hHeld:=hHeld2
 clear hHeld2
 try simp only [Act.put,List.setIfInBounds_toArray,List.set_cons_zero,List.set_cons_succ]
 refine wpAnyH_take (i:=13) (oi:={ dst:=some 37,op:=Op.binOp BinOp.neq 4 (Operand.tmp 34) (Operand.tmp 36) 4,type:=4,pos:= "law.go:28",after:=#[{ on:=10,ground:=Ground.data },{ on:=12,ground:=Ground.data },{ on:=8,ground:=Ground.guard }],guard:=some (8,false) }) (v:=?_) rfl (by kernel_rfl) (by kernel_rfl) (by kernel_rfl) (fun _ _ _ h => h) (Or.inl ⟨by rfl,?_⟩) hHeld ?_
 rotate_left
 ·intro w5 hSw
  clear hSw
  go_simp
  (try with_reducible rfl)
 try simp only [Act.put,List.setIfInBounds_toArray,List.set_cons_zero,List.set_cons_succ]
 refine wpAnyH_take (i:=14) (oi:={ dst:=some 38,op:=Op.pick (Operand.tmp 32) (Operand.const (Value.bool true)) (Operand.tmp 37),type:=4,pos:= "law.go:28",after:=#[{ on:=8,ground:=Ground.data },{ on:=13,ground:=Ground.data }],guard:=none }) (v:=?_) rfl (by kernel_rfl) (by kernel_rfl) (by kernel_rfl) (fun _ _ _ h => h) (Or.inl ⟨by rfl,?_⟩) hHeld ?_
 rotate_left
 ·intro w5 hSw
  clear hSw
  go_simp
  (try with_reducible rfl)
 try simp only [Act.put,List.setIfInBounds_toArray,List.set_cons_zero,List.set_cons_succ]
 refine wpAnyH_done (by kernel_rfl) ?_ _
 have HB5:=aa (HB4.out.trans (hn6.mono HB4.out.size))
 have HK5:=aa (af HK4.out hn6)
 clear HKS HBR hn5 hn6 hHeld hsvt hev hrr hb5 hb6
 rcases HSV.out with ⟨hr,rfl,rfl⟩ | ⟨hr,rfl,rfl⟩
 rotate_left
 ·clear HSV
  go_wp2_with fail
  go_ret
  exact ⟨rfl,HB5.out⟩
 have HRT:=aa hr
 rcases Nat.eq_zero_or_pos (encE M.tree) with he | he
 rotate_left
 ·have z3 : ((encE M.tree : Int) != 0) = true:=by simp; omega
  have hes : encS M.tree = ⟨#[]⟩:=by unfold encS; rw [if_neg (by omega)]
  rw [hes]
  obtain ⟨q,hq⟩ : ∃ q : Nat,q = encE M.tree:=⟨_,rfl⟩
  rw [<- hq] at z3 he |-
  clear hq HSV hes
  go_wp2_with fail
  go_ret
  exact ⟨rfl,HB5.out⟩
 obtain ⟨hright,hs8,hsl,hss⟩:=enc_ok he
 have hdc:=behind_some M (by rw [HRW.out]; exact hr) he
 rw [he]
 obtain ⟨s,hs⟩ : ∃ s,s = encS M.tree:=⟨_,rfl⟩
 rw [<- hs] at hss hdc |-
 have HDU:=aa fun (W : World) (hb : Below w.heap.size w W) => decode_same HSAME.out s W (by omega) (HA.out.below hb) hdc
 clear hright hs8 hsl hss hdc hs he hr HSV
 go_wp2_with (first
  | (go_at_call 11; refine (HDU.out _ HB5.out).mono ?_; rintro e w6 ⟨hb6,ms,rfl,hsz,hone,hsm⟩; have HSZ6:=aa hsz; have HON6:=aa hone; have HSM:=aa hsm; have HB6:=aa (HB5.out.trans (hb6.mono HB5.out.size)); have HK6:=aa (af HK5.out hb6); clear hsz hone hsm hb6)
  | (refine ap rfl 30 (.tmp 7) (.tmp 46) rfl w6.heap.size rfl ms rfl 30 MC.zero.cells ?_ ?_ ?_ HON6.out (fun w7 hbk7 hof7 => ?_); (exact Bk.new w6 _ _); (exact HSZ6.out.symm); (rw [HSZ6.out]; exact HS.out); have HBK7:=aa hbk7; have HOF7:=aa hof7; have HB7:=aa ((HB6.out.alloc HB6.out.size mzero).trans (hof7.below (B:=w.heap.size) (by simp; have:=HB6.out.size; omega) (by simp; exact HB6.out.size))); have HK7:=aa (hof7.bk (HK6.out.alloc mzero) (by simp; have:=HK6.out.lt; omega)); clear hbk7 hof7)
  | (refine bq rfl 30 (.tmp 7) rfl w6.heap.size rfl 30 ms (0,0) _ HBK7.out Tryz.underlying30 rfl ?_ ?_; (rw [HSZ6.out]; exact HS.out))
  | (refine bq rfl 30 (.tmp 1) rfl w.heap.size rfl 30 cs (0,0) _ HK7.out Tryz.underlying30 rfl HSI.out ?_)
  | (go_at_call 12; rw [HCS.out]; refine (HSM.out _ m S HOF7.out (HM.out _ HB7.out)).mono ?_; rintro e w8 ⟨rfl,hb8⟩; have HB8:=aa (HB7.out.trans (hb8.mono HB7.out.size)); clear hb8)
  | fail)
 go_ret
 exact ⟨rfl,HB8.out⟩
theorem msgEncodes_row (M : Ms) (m : MC) (S : Nat -> Prop) (w : World) (h : MsAt w S M m) (ha : AnsAt w) : Calls Tryz.prog 3 #[.agg m.cells] w (Holds w) :=
 msgEncodes_any (fun M m1 m2 S1 S2 w h1 h2 => same_msg M m1 m2 S1 S2 w h1 h2) M m S w h ha
end Go.Proofs.YtbiglfpikfjbpaaGreatDoor
