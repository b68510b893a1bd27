import Derived.Test.YtbiglfpikfjbpaaGreatDoorR29
import Derived.Test.YtbiglfpikfjbpaaGreatDoorR33
import Derived.Deep.CutBlock
import Derived.OrdersHeld
import Derived.Test.YtbiglfpikfjbpaaGreatDoorR17
import Derived.Test.YtbiglfpikfjbpaaGreatDoorR16
namespace Go.Proofs.YtbiglfpikfjbpaaGreatDoor
open Go.RowKit
set_option maxRecDepth 100000
set_option linter.unusedVariables false
set_option linter.unusedSimpArgs false
set_option maxHeartbeats 40000000
theorem tctl_text1 (d1 : ByteArray) (d2 d3 : Bool) (d4 : ByteArray) : d1.size < (PB.enc (tctl (d1,d2,d3,d4))).length:=by
 unfold tctl aF
 have h1:=av 0 4 d1
 have h2:=bg 0 16 (tstr d1 :: ((if d2 then [bu true] else []) ++ (if d3 then [tstr d4] else [])))
 rw [ag] at h2
 have e1 : (PB.enc (tstr d1)).length = (PB.enc (.mk 0 false 4 d1 [])).length:=rfl
 simp only at h2 |-
 omega
theorem tctl_text4 (d1 : ByteArray) (d2 d3 : Bool) (d4 : ByteArray) (h : d3 = true) : d4.size < (PB.enc (tctl (d1,d2,d3,d4))).length:=by
 subst h
 unfold tctl aF
 have h1:=av 0 4 d4
 have h2:=bg 0 16 (tstr d1 :: ((if d2 then [bu true] else []) ++ (if true then [tstr d4] else [])))
 rw [ag,aL,if_pos rfl,ag] at h2
 have e1 : (PB.enc (tstr d4)).length = (PB.enc (.mk 0 false 4 d4 [])).length:=rfl
 simp only [if_pos] at h2 |-
 omega
theorem rencode_right (M : Ms) (m : MC) (S : Nat -> Prop) (w : World) (h : MsAt w S M m) (hr : M.right = true) (hw : M.wt <= 40000) (hf : M.filter.wt <= 10000) :
  Calls Tryz.prog 8 #[.agg m.cells] w (fun e w' => Below w.heap.size w w' /\ e = .returned (.tuple #[.string (encS M.tree),.int .i64 (encE M.tree)])):=by
 have HSM:=aa bd
 have hkeep : ∀ W,Below w.heap.size w W -> MsAt W S M m:=fun W hb => h.keep hb.size (fun x _ hlt => hb.block x hlt) (fun _ h _ => h)
 have hrr:=hr
 unfold Ms.right at hrr
 simp only [Bool.and_eq_true] at hrr
 obtain ⟨-,hid,hrg,-⟩:=hrr
 have hid2:=inB_iff.1 hid
 have HOP:=aa fun (W : World) (hb : Below w.heap.size w W) => rop_any M m S W (hkeep W hb) hrg hw hf
 have HRT:=aa fun (W : World) (hb : Below w.heap.size w W) => (show Calls Tryz.prog 10 #[.agg m.cells] W (ap true W) by rw [<- hr]; exact ft M m S W (hkeep W hb))
 have HNU:=aa fun (W : World) => eO 2 M.id W (by omega) (by omega)
 have HEE:=aa (M.encE_tree hrg)
 have htl:=tree_len M hw hf
 have hol:=opT_len M
 have HLN:=aa (show (PB.enc M.tree).length < 4000000 from htl)
 have HLO:=aa (show (PB.enc M.opT).length < 4000000 by omega)
 have HLT:=aa (cx 2 M.id)
 obtain ⟨f,at',li,mo,de,co,hm,-,-,-,-,-,-,hco⟩:=h
 obtain ⟨⟨oA,on,oc⟩,hov⟩ : ∃ r,r = co:=⟨_,rfl⟩
 rw [<- hov] at hm hco
 obtain ⟨hm1,hm2,hm3,hm4⟩:=hco
 simp only at hm1 hm2 hm3 hm4
 subst hm1
 obtain ⟨cs,hcs⟩ : ∃ cs,cs = m.cells:=⟨_,rfl⟩
 have c0 : cs[0]? = some (.int .i64 M.id):=by rw [hcs,hm]; rfl
 have c30 : cs[30]? = some (.slice oA M.controls.length oc):=by rw [hcs,hm]; rfl
 have HSZ:=aa (show cs.size = 31 by rw [hcs]; exact ca m)
 rw [<- hcs] at HOP HRT |-
 obtain ⟨wm,hwm⟩ : ∃ W,W = w.alloc (.cells cs 30):=⟨_,rfl⟩
 have hbx : Below w.heap.size w wm:=by rw [hwm]; exact (Below.refl w.heap.size w).alloc (Nat.le_refl _) _
 have hkx : Bk wm w.heap.size 30 cs:=by rw [hwm]; exact Bk.new w _ cs
 have HBX:=aa hbx
 have HKX:=aa hkx
 have HWM:=aa hwm
 have HC0:=aa c0
 have HC30:=aa c30
 have HM4:=aa hm4
 have HSI:=aa (show (Tryz.prog.info? 30).map (·.size) = some cs.size by rw [HSZ.out]; exact HSM.out)
 have hmm : oc <= 9223372036854775807:=by unfold maxLen at hm3; omega
 clear hcs hm hm3 hm4 hbx hkx hwm hkeep hr hw hf hid hid2 hrg htl hol c0 c30 hov
 go_enter Tryz.func8,Tryz.ntmps8
 go_upto_region 1 with fail
 rw [<- HWM.out]
 go_upto_region 3 with (first
  | (refine wpList_load_row rfl 30 (.tmp 1) rfl w.heap.size rfl 30 cs (0,0) _ ?_ Tryz.underlying30 rfl ?_ ?_; (exact HKX.out); (exact HSI.out))
  | (go_at_call 10; go_must (refine (HRT.out _ HBX.out).mono ?_); rintro e w1 ⟨rfl,hb1⟩; have HB1:=aa (HBX.out.trans (hb1.mono HBX.out.size)); have HK1:=aa (af HKX.out hb1); clear hb1)
  | fail)
 have HKS:=aa fun (W : World) (hb : Below w1.heap.size w1 W) => (show W.cell? ⟨w.heap.size,0,none⟩ = some (.int .i64 M.id) /\ W.heap[w.heap.size]? = some (.cells cs 30 (0,0)) from ⟨((af HK1.out hb).cell 0).trans HC0.out,af HK1.out hb⟩)
 have HBR:=aa (Below.refl w1.heap.size w1).drew
 refine wp_region_held_drew (S:=fun W => W.cell? ⟨w.heap.size,0,none⟩ = some (.int .i64 M.id) /\ W.heap[w.heap.size]? = some (.cells cs 30 (0,0))) (by kernel_rfl) (HKS.out _ HBR.out) (fun hHeld => ?_)
 refine wpAnyH_take (i:=0) (oi:={ dst:=some 11,op:=Op.fieldAddr 30 (Operand.tmp 1) 0,type:=0,pos:= "ref.go:251",after:=#[],guard:=none }) (v:=?_) rfl (by kernel_rfl) (by kernel_rfl) (by kernel_rfl) (fun _ _ _ h => h) (Or.inl ⟨by rfl,?_⟩) hHeld ?_
 rotate_left
 ·intro w5 hSw
  obtain ⟨hS0,-⟩:=hSw
  go_simp
  (try with_reducible rfl)
 try simp only [Act.put,List.setIfInBounds_toArray,List.set_cons_zero,List.set_cons_succ]
 refine wpAnyH_take (i:=1) (oi:={ dst:=some 12,op:=Op.load 3 (Operand.tmp 11),type:=3,pos:= "ref.go:251",after:=#[{ on:=0,ground:=Ground.data }],guard:=none }) (v:=?_) rfl (by kernel_rfl) (by kernel_rfl) (by kernel_rfl) (fun _ _ _ h => h) (Or.inl ⟨by rfl,?_⟩) hHeld ?_
 rotate_left
 ·intro w5 hSw
  obtain ⟨hS0,-⟩:=hSw
  go_simp
  (try with_reducible rfl)
 try simp only [Act.put,List.setIfInBounds_toArray,List.set_cons_zero,List.set_cons_succ]
 refine wpAnyH_take (i:=3) (oi:={ dst:=some 14,op:=Op.load 30 (Operand.tmp 1),type:=30,pos:= "ref.go:251",after:=#[],guard:=none }) (v:=.agg cs) rfl (by kernel_rfl) (by kernel_rfl) (by kernel_rfl) (fun _ _ _ h => h) (Or.inl ⟨by rfl,?_⟩) hHeld ?_
 ·intro w5 hSw
  exact dD _ _ _ _ rfl rfl hSw.2 Tryz.underlying30 rfl HSI.out
 try simp only [Act.put,List.setIfInBounds_toArray,List.set_cons_zero,List.set_cons_succ]
 refine wpAnyH_ready (rs:=[2]) (by kernel_rfl) (by simp) ?_
 refine AllReadyH.cons (o:={ dst:=some 13,op:=Op.call { callee:=Callee.value (Operand.func 24),args:=#[Operand.const (Value.int IntKind.i64 2),Operand.tmp 12],argTypes:=#[3,3] },type:=9,pos:= "ref.go:251",after:=#[{ on:=1,ground:=Ground.data }],guard:=none }) rfl (fun K hK => ?_) AllReadyH.nil
 go_simp
 (go_at_call 24)
 refine (HNU.out _).mono ?_
 rintro e w2 ⟨hb2,x2,rfl,hx2⟩
 have hn2:=aj HBR.out hb2
 have HX2:=aa hx2
 clear hx2 hb2
 go_wp2_with fail
 refine hK _ _ (HKS.out _ hn2) (fun hHeld2 => ?_)
 clear hK K hHeld
 have hHeld:=hHeld2
 clear hHeld2
 try simp only [Act.put,List.setIfInBounds_toArray,List.set_cons_zero,List.set_cons_succ]
 refine wpAnyH_ready (rs:=[4]) (by kernel_rfl) (by simp) ?_
 refine AllReadyH.cons (o:={ dst:=some 15,op:=Op.call { callee:=Callee.value (Operand.func 25),args:=#[Operand.tmp 14],argTypes:=#[30] },type:=9,pos:= "ref.go:251",after:=#[{ on:=3,ground:=Ground.data },{ on:=2,ground:=Ground.chain }],guard:=none }) rfl (fun K hK => ?_) AllReadyH.nil
 go_simp
 (go_at_call 25)
 refine (HOP.out _ (HB1.out.trans (hn2.mono HB1.out.size))).mono ?_
 rintro e w3 ⟨hb3,x3,rfl,hx3⟩
 have hn3:=aj hn2 hb3
 have HX3:=aa hx3
 obtain ⟨a1,E1,k1⟩:=cat HX2.out HX3.out (by have h1:=HLO.out; have h2:=HLT.out; omega)
 clear hx3 hb3
 go_wp2_with fail
 refine hK _ _ (HKS.out _ hn3) (fun hHeld2 => ?_)
 clear hK K hHeld
 have hHeld:=hHeld2
 clear hHeld2
 try simp only [Act.put,List.setIfInBounds_toArray,List.set_cons_zero,List.set_cons_succ]
 refine wpAnyH_take (i:=5) (oi:={ dst:=some 16,op:=Op.binOp BinOp.add 9 (Operand.tmp 13) (Operand.tmp 15) 9,type:=9,pos:= "ref.go:251",after:=#[{ on:=2,ground:=Ground.data },{ on:=4,ground:=Ground.data }],guard:=none }) (v:=?_) rfl (by kernel_rfl) (by kernel_rfl) (by kernel_rfl) (fun _ _ _ h => h) (Or.inl ⟨by rfl,?_⟩) hHeld ?_
 rotate_left
 ·intro w5 hSw
  obtain ⟨hS0,-⟩:=hSw
  go_simp
  (try with_reducible rfl)
 try simp only [Act.put,List.setIfInBounds_toArray,List.set_cons_zero,List.set_cons_succ]
 refine wpAnyH_take (i:=6) (oi:={ dst:=some 4,op:=Op.assign (Operand.tmp 16),type:=9,pos:= "ref.go:251",after:=#[{ on:=5,ground:=Ground.data },{ on:=4,ground:=Ground.chain },{ on:=0,ground:=Ground.phase },{ on:=1,ground:=Ground.phase },{ on:=2,ground:=Ground.phase },{ on:=3,ground:=Ground.phase },{ on:=4,ground:=Ground.phase },{ on:=5,ground:=Ground.phase }],guard:=none }) (v:=?_) rfl (by kernel_rfl) (by kernel_rfl) (by kernel_rfl) (fun _ _ _ h => h) (Or.inl ⟨by rfl,?_⟩) hHeld ?_
 rotate_left
 ·intro w5 hSw
  obtain ⟨hS0,-⟩:=hSw
  go_simp
  (try with_reducible rfl)
 try simp only [Act.put,List.setIfInBounds_toArray,List.set_cons_zero,List.set_cons_succ]
 refine wpAnyH_done (by kernel_rfl) ?_ _
 have HB3:=aa (HB1.out.trans (hn3.mono HB1.out.size))
 have HK3:=aa (af HK1.out hn3)
 have p30:=(HK3.out.cell 30).trans HC30.out
 have l3:=HK3.out.lt
 clear HKS HBR hn2 hn3 hHeld
 by_cases hc : M.controls = []
 ·have HTR:=aa (show PB.encs [tnum 2 M.id,M.opT] = a1.data.toList by rw [E1.out]; simp only [PB.encs,List.append_nil])
  have HTE:=aa (show M.tree = aF [tnum 2 M.id,M.opT] by unfold Ms.tree; rw [if_pos hc,List.append_nil])
  have z0 : M.controls.length = 0:=by rw [hc]; rfl
  rw [z0] at p30
  have HLI:=aa fun (W : World) => (show Calls Tryz.prog 28 #[.string a1] W (RefS (PB.enc M.tree) W) by
   rw [HTE.out]
   exact cP a1 _ W HTR.out.symm (by have h1:=HLN.out; rw [HTE.out] at h1; have h2:=bg 0 16 [tnum 2 M.id,M.opT]; unfold aF at h1; omega))
  clear hc z0
  go_wp2_with (first
   | (go_at_call 28; go_must (with_reducible refine (HLI.out _).mono ?_); rintro e w4 ⟨hb4,x4,rfl,hx4⟩; have HB4:=aa (HB3.out.trans (hb4.mono HB3.out.size)); have HX4:=aa hx4; clear hb4 hx4)
   | fail)
  ·rename_i h8
   have hsl : x4.size = (PB.enc M.tree).length:=aS HX4.out
   have HE:=aa (show encE M.tree = 5 by rw [HEE.out,if_pos (by omega)])
   clear h8 hsl
   go_ret2
   exact ⟨HB4.out,by rw [show encS M.tree = ⟨#[]⟩ by unfold encS; rw [HE.out]; rfl,HE.out]; rfl⟩
  ·rename_i h8
   have hsl : x4.size = (PB.enc M.tree).length:=aS HX4.out
   have HE:=aa (show encE M.tree = 0 by rw [HEE.out,if_neg (by omega)])
   have HES:=aa (show x4 = encS M.tree by unfold encS; rw [if_pos HE.out]; exact ee HX4.out)
   clear h8 hsl
   go_ret2
   exact ⟨HB4.out,by rw [HE.out,<- HES.out]; rfl⟩
 ·have hcl : (PB.encs (M.controls.map tctl)).length <= (PB.enc M.tree).length:=by
   have h1:=bg 2 0 (M.controls.map tctl)
   have h2 : (PB.enc (.mk 2 true 0 ⟨#[]⟩ (M.controls.map tctl))).length <= (PB.encs ([tnum 2 M.id,M.opT] ++ (if M.controls = [] then [] else [.mk 2 true 0 ⟨#[]⟩ (M.controls.map tctl)]))).length:=cL (by rw [if_neg hc]; simp)
   have h3:=bg 0 16 ([tnum 2 M.id,M.opT] ++ (if M.controls = [] then [] else [.mk 2 true 0 ⟨#[]⟩ (M.controls.map tctl)]))
   unfold Ms.tree aF
   omega
  have HCL:=aa (show (PB.encs (M.controls.map tctl)).length < 4000000 by have:=HLN.out; omega)
  have HTE:=aa (show M.tree = aF [tnum 2 M.id,M.opT,.mk 2 true 0 ⟨#[]⟩ (M.controls.map tctl)] by unfold Ms.tree; rw [if_neg hc]; rfl)
  have z0 : decide ((0 : Int) < (M.controls.length : Int)) = true:=ab (by have : M.controls.length ≠ 0:=fun h => hc (List.eq_nil_of_length_eq_zero h); omega)
  have z0n : decide (0 < M.controls.length) = true:=ab (by have : M.controls.length ≠ 0:=fun h => hc (List.eq_nil_of_length_eq_zero h); omega)
  clear hc hcl
  go_wp2_with fail
  go_loopw [5,6] (fun u i wr => ∃ (j : Nat) (s : ByteArray),i = .int .i64 j /\ u = .string s /\ j <= M.controls.length /\ Hid (s.data.toList = PB.encs ((M.controls.take j).map tctl)) /\ Below w.heap.size w wr /\ Bk wr w.heap.size 30 cs) (fun _ i _ => M.controls.length - (intOf i).toNat)
  case atStart => exact ⟨0,⟨#[]⟩,rfl,rfl,Nat.zero_le _,by unfold Hid; simp [PB.encs],HB3.out,HK3.out⟩
  case round =>
   obtain ⟨j,s,rfl,rfl,hj,HS,hbw,hbk⟩:=hrel
   have HBW:=aa hbw
   have HBK:=aa hbk
   have p30:=(hbk.cell 30).trans HC30.out
   have l30:=hbk.lt
   by_cases hlt : j < M.controls.length
   ·have z1 : decide ((j : Int) < (M.controls.length : Int)) = true:=ab (by omega)
    have z1n : decide (j < M.controls.length) = true:=ab hlt
    have hx : M.controls[j]? = some M.controls[j]:=List.getElem?_eq_getElem hlt
    obtain ⟨b,o,c,rfl,hS,hc1,hcl,hfk⟩:=HM4.out j M.controls[j] hx
    obtain ⟨rfl,-,-⟩:=hfk
    have hmem:=List.getElem_mem hlt
    obtain ⟨d,hd⟩ : ∃ d,d = M.controls[j]:=⟨_,rfl⟩
    rw [<- hd] at hcl hx hmem
    have HXM:=aa (cF (tl:=tctl) hx)
    have hle : (PB.enc (tctl d)).length <= (PB.encs (M.controls.map tctl)).length:=cL (List.mem_map_of_mem hmem)
    have htk : (PB.encs ((M.controls.take j).map tctl)).length <= (PB.encs (M.controls.map tctl)).length:=by rw [List.map_take]; exact cE _ _
    have HNJ:=aa (show (PB.encs ((M.controls.take j).map tctl)).length < 4000000 /\ (PB.enc (tctl d)).length < 4000000 by have:=HCL.out; omega)
    obtain ⟨d1,d2,d3,d4⟩:=d
    have HKC:=aa fun (W : World) (hb : Below wr.heap.size wr W) => (show W.cell? ⟨w.heap.size,30,none⟩ = some (.slice (some ⟨b,o,none⟩) M.controls.length oc) /\ W.cell? ⟨b,o + j * 4,none⟩ = some (.string d1) /\ W.cell? ⟨b,o + j * 4 + 1,none⟩ = some (.bool d2) /\ W.cell? ⟨b,o + j * 4 + 2,none⟩ = some (.bool d3) /\ W.cell? ⟨b,o + j * 4 + 3,none⟩ = some (.string d4) /\ w.heap.size < W.heap.size /\ b < W.heap.size from
     ⟨((af HBK.out hb).cell 30).trans HC30.out,((hbw.trans (hb.mono hbw.size)).cell (p:=⟨b,o + j * 4,none⟩) hS.2).trans (hcl 0 _ rfl),((hbw.trans (hb.mono hbw.size)).cell (p:=⟨b,o + j * 4 + 1,none⟩) hS.2).trans (hcl 1 _ rfl),((hbw.trans (hb.mono hbw.size)).cell (p:=⟨b,o + j * 4 + 2,none⟩) hS.2).trans (hcl 2 _ rfl),((hbw.trans (hb.mono hbw.size)).cell (p:=⟨b,o + j * 4 + 3,none⟩) hS.2).trans (hcl 3 _ rfl),(af HBK.out hb).lt,Nat.lt_of_lt_of_le hS.2 (hbw.trans (hb.mono hbw.size)).size⟩)
    obtain ⟨r30,r0,r1,r2,r3,r4,r5⟩:=HKC.out wr (Below.refl _ _)
    have hle1:=tctl_text1 d1 d2 d3 d4
    have HT1:=aa fun (W : World) => bc d1 W (by have:=HNJ.out.2; omega)
    have HT4:=aa fun (hd : d3 = true) (W : World) => bc d4 W (by have h1:=HNJ.out.2; have h2:=tctl_text4 d1 d2 d3 d4 hd; omega)
    have HTT:=aa fun (W : World) => t_truth true W
    clear hx hS hc1 hcl hd hmem hbw hbk hle htk p30 hle1
    cases d2 with
    | false =>
     cases d3 with
     | false =>
      have HTC:=aa (show tctl (d1,false,false,d4) = aF [tstr d1] from rfl)
      have HSZ9:=aa (show (PB.encs [tstr d1]).length < 4000000 by have h1:=HNJ.out.2; rw [HTC.out] at h1; have h2:=bg 0 16 [tstr d1]; unfold aF at h1; omega)
      have HLI:=aa fun (a : ByteArray) (ha : a.data.toList = PB.encs [tstr d1]) (W : World) => cP a _ W ha (by have:=HSZ9.out; omega)
      go_wp2_with (first
       | (go_at_call 26; (with_reducible refine (HT1.out _).mono ?_); rintro e v1 ⟨hv1,x1,rfl,hx1⟩; have hn1:=hv1; have HX1:=aa hx1; obtain ⟨r30,r0,r1,r2,r3,r4,r5⟩:=HKC.out _ hn1; clear hx1 hv1)
       | (go_at_call 28; go_must (with_reducible refine (HLI.out x1 (by rw [HX1.out]; simp only [PB.encs,List.append_assoc,List.append_nil]) _).mono ?_); rintro e v4 ⟨hv4,x4,rfl,hx4⟩; have hn4:=aj hn1 hv4; have HX4:=aa hx4; obtain ⟨b4,F4,g4⟩:=cat HS.out HX4.out (by have h1:=HNJ.out; rw [HTC.out] at h1; omega); clear hx4 hv4)
       | fail)
      have HB9:=aa (HBW.out.trans (hn4.mono HBW.out.size))
      have HK9:=aa (af HBK.out hn4)
      go_roundw
      case rel => first | exact ⟨j + 1,b4,by go_num,rfl,by omega,by unfold Hid; rw [F4.out,HXM.out,HTC.out],HB9.out,HK9.out⟩ | ((repeat apply Exists.intro); refine ⟨?_,rfl⟩; exact ⟨j + 1,b4,by go_num,rfl,by omega,by unfold Hid; rw [F4.out,HXM.out,HTC.out],HB9.out,HK9.out⟩)
      case measure => simp [intOf]; omega
     | true =>
      have HTC:=aa (show tctl (d1,false,true,d4) = aF [tstr d1,tstr d4] from rfl)
      have HSZ9:=aa (show (PB.encs [tstr d1,tstr d4]).length < 4000000 by have h1:=HNJ.out.2; rw [HTC.out] at h1; have h2:=bg 0 16 [tstr d1,tstr d4]; unfold aF at h1; omega)
      have HLI:=aa fun (a : ByteArray) (ha : a.data.toList = PB.encs [tstr d1,tstr d4]) (W : World) => cP a _ W ha (by have:=HSZ9.out; omega)
      go_wp2_with (first
       | (go_at_call 26; (with_reducible refine (HT1.out _).mono ?_); rintro e v1 ⟨hv1,x1,rfl,hx1⟩; have hn1:=hv1; have HX1:=aa hx1; obtain ⟨r30,r0,r1,r2,r3,r4,r5⟩:=HKC.out _ hn1; clear hx1 hv1)
       | (go_at_call 26; go_must (with_reducible refine (HT4.out (by trivial) _).mono ?_); rintro e v3 ⟨hv3,x3,rfl,hx3⟩; have hn3:=aj hn1 hv3; have HX3:=aa hx3; obtain ⟨b3,F3,g3⟩:=cat HX1.out HX3.out (by have h9:=HSZ9.out; simp only [PB.encs,List.length_append,List.length_nil] at h9 |-; omega); obtain ⟨r30,r0,r1,r2,r3,r4,r5⟩:=HKC.out _ hn3; clear hx3 hv3)
       | (go_at_call 28; go_must (with_reducible refine (HLI.out b3 (by rw [F3.out]; simp only [PB.encs,List.append_assoc,List.append_nil]) _).mono ?_); rintro e v4 ⟨hv4,x4,rfl,hx4⟩; have hn4:=aj hn3 hv4; have HX4:=aa hx4; obtain ⟨b4,F4,g4⟩:=cat HS.out HX4.out (by have h1:=HNJ.out; rw [HTC.out] at h1; omega); clear hx4 hv4)
       | fail)
      have HB9:=aa (HBW.out.trans (hn4.mono HBW.out.size))
      have HK9:=aa (af HBK.out hn4)
      go_roundw
      case rel => first | exact ⟨j + 1,b4,by go_num,rfl,by omega,by unfold Hid; rw [F4.out,HXM.out,HTC.out],HB9.out,HK9.out⟩ | ((repeat apply Exists.intro); refine ⟨?_,rfl⟩; exact ⟨j + 1,b4,by go_num,rfl,by omega,by unfold Hid; rw [F4.out,HXM.out,HTC.out],HB9.out,HK9.out⟩)
      case measure => simp [intOf]; omega
    | true =>
     cases d3 with
     | false =>
      have HTC:=aa (show tctl (d1,true,false,d4) = aF [tstr d1,bu true] from rfl)
      have HSZ9:=aa (show (PB.encs [tstr d1,bu true]).length < 4000000 by have h1:=HNJ.out.2; rw [HTC.out] at h1; have h2:=bg 0 16 [tstr d1,bu true]; unfold aF at h1; omega)
      have HLI:=aa fun (a : ByteArray) (ha : a.data.toList = PB.encs [tstr d1,bu true]) (W : World) => cP a _ W ha (by have:=HSZ9.out; omega)
      go_wp2_with (first
       | (go_at_call 26; (with_reducible refine (HT1.out _).mono ?_); rintro e v1 ⟨hv1,x1,rfl,hx1⟩; have hn1:=hv1; have HX1:=aa hx1; obtain ⟨r30,r0,r1,r2,r3,r4,r5⟩:=HKC.out _ hn1; clear hx1 hv1)
       | (go_at_call 27; (with_reducible refine (HTT.out _).mono ?_); rintro e v2 ⟨hv2,x2,rfl,hx2⟩; have hn2:=aj hn1 hv2; have HX2:=aa hx2; obtain ⟨b2,F2,g2⟩:=cat HX1.out HX2.out (by have h9:=HSZ9.out; simp only [PB.encs,List.length_append,List.length_nil] at h9 |-; omega); obtain ⟨r30,r0,r1,r2,r3,r4,r5⟩:=HKC.out _ hn2; clear hx2 hv2)
       | (go_at_call 28; go_must (with_reducible refine (HLI.out b2 (by rw [F2.out]; simp only [PB.encs,List.append_assoc,List.append_nil]) _).mono ?_); rintro e v4 ⟨hv4,x4,rfl,hx4⟩; have hn4:=aj hn2 hv4; have HX4:=aa hx4; obtain ⟨b4,F4,g4⟩:=cat HS.out HX4.out (by have h1:=HNJ.out; rw [HTC.out] at h1; omega); clear hx4 hv4)
       | fail)
      have HB9:=aa (HBW.out.trans (hn4.mono HBW.out.size))
      have HK9:=aa (af HBK.out hn4)
      go_roundw
      case rel => first | exact ⟨j + 1,b4,by go_num,rfl,by omega,by unfold Hid; rw [F4.out,HXM.out,HTC.out],HB9.out,HK9.out⟩ | ((repeat apply Exists.intro); refine ⟨?_,rfl⟩; exact ⟨j + 1,b4,by go_num,rfl,by omega,by unfold Hid; rw [F4.out,HXM.out,HTC.out],HB9.out,HK9.out⟩)
      case measure => simp [intOf]; omega
     | true =>
      have HTC:=aa (show tctl (d1,true,true,d4) = aF [tstr d1,bu true,tstr d4] from rfl)
      have HSZ9:=aa (show (PB.encs [tstr d1,bu true,tstr d4]).length < 4000000 by have h1:=HNJ.out.2; rw [HTC.out] at h1; have h2:=bg 0 16 [tstr d1,bu true,tstr d4]; unfold aF at h1; omega)
      have HLI:=aa fun (a : ByteArray) (ha : a.data.toList = PB.encs [tstr d1,bu true,tstr d4]) (W : World) => cP a _ W ha (by have:=HSZ9.out; omega)
      go_wp2_with (first
       | (go_at_call 26; (with_reducible refine (HT1.out _).mono ?_); rintro e v1 ⟨hv1,x1,rfl,hx1⟩; have hn1:=hv1; have HX1:=aa hx1; obtain ⟨r30,r0,r1,r2,r3,r4,r5⟩:=HKC.out _ hn1; clear hx1 hv1)
       | (go_at_call 27; (with_reducible refine (HTT.out _).mono ?_); rintro e v2 ⟨hv2,x2,rfl,hx2⟩; have hn2:=aj hn1 hv2; have HX2:=aa hx2; obtain ⟨b2,F2,g2⟩:=cat HX1.out HX2.out (by have h9:=HSZ9.out; simp only [PB.encs,List.length_append,List.length_nil] at h9 |-; omega); obtain ⟨r30,r0,r1,r2,r3,r4,r5⟩:=HKC.out _ hn2; clear hx2 hv2)
       | (go_at_call 26; go_must (with_reducible refine (HT4.out (by trivial) _).mono ?_); rintro e v3 ⟨hv3,x3,rfl,hx3⟩; have hn3:=aj hn2 hv3; have HX3:=aa hx3; obtain ⟨b3,F3,g3⟩:=cat F2.out HX3.out (by have h9:=HSZ9.out; simp only [PB.encs,List.length_append,List.length_nil] at h9 |-; omega); obtain ⟨r30,r0,r1,r2,r3,r4,r5⟩:=HKC.out _ hn3; clear hx3 hv3)
       | (go_at_call 28; go_must (with_reducible refine (HLI.out b3 (by rw [F3.out]; simp only [PB.encs,List.append_assoc,List.append_nil]) _).mono ?_); rintro e v4 ⟨hv4,x4,rfl,hx4⟩; have hn4:=aj hn3 hv4; have HX4:=aa hx4; obtain ⟨b4,F4,g4⟩:=cat HS.out HX4.out (by have h1:=HNJ.out; rw [HTC.out] at h1; omega); clear hx4 hv4)
       | fail)
      have HB9:=aa (HBW.out.trans (hn4.mono HBW.out.size))
      have HK9:=aa (af HBK.out hn4)
      go_roundw
      case rel => first | exact ⟨j + 1,b4,by go_num,rfl,by omega,by unfold Hid; rw [F4.out,HXM.out,HTC.out],HB9.out,HK9.out⟩ | ((repeat apply Exists.intro); refine ⟨?_,rfl⟩; exact ⟨j + 1,b4,by go_num,rfl,by omega,by unfold Hid; rw [F4.out,HXM.out,HTC.out],HB9.out,HK9.out⟩)
      case measure => simp [intOf]; omega
   have z1 : decide ((j : Int) < (M.controls.length : Int)) = false:=ae (by omega)
   have z1n : decide (j < M.controls.length) = false:=ae (by omega)
   have HSF:=aa (show s.data.toList = PB.encs (M.controls.map tctl) by rw [HS.out,List.take_of_length_le (by omega)])
   have HND:=aa fun (W : World) => cD 2 0 s (M.controls.map tctl) W (by omega) (by omega) HSF.out (by have:=HCL.out; omega)
   have HLI:=aa fun (a : ByteArray) (ha : a.data.toList = PB.encs [tnum 2 M.id,M.opT,.mk 2 true 0 ⟨#[]⟩ (M.controls.map tctl)]) (W : World) => (show Calls Tryz.prog 28 #[.string a] W (RefS (PB.enc M.tree) W) by
    rw [HTE.out]
    exact cP a _ W ha (by have h1:=HLN.out; rw [HTE.out] at h1; have h2:=bg 0 16 [tnum 2 M.id,M.opT,.mk 2 true 0 ⟨#[]⟩ (M.controls.map tctl)]; unfold aF at h1; omega))
   have HLC:=aa (show (PB.enc (.mk 2 true 0 ⟨#[]⟩ (M.controls.map tctl))).length < 5000000 by have h1:=cz 2 0 (M.controls.map tctl); have:=HCL.out; omega)
   clear hbw hbk hlt
   go_wp2_with (first
    | (go_at_call 29; go_must (with_reducible refine (HND.out _).mono ?_); rintro e w5 ⟨hb5,x5,rfl,hx5⟩; have HB5:=aa (HBW.out.trans (hb5.mono HBW.out.size)); have HX5:=aa hx5; obtain ⟨a2,E2,k2⟩:=cat E1.out HX5.out (by have h1:=HLO.out; have h2:=HLT.out; have h3:=HLC.out; simp only [List.length_append]; omega); clear hb5 hx5)
    | (go_at_call 28; go_must (with_reducible refine (HLI.out a2 (by rw [E2.out]; simp only [PB.encs,List.append_assoc,List.append_nil]) _).mono ?_); rintro e w4 ⟨hb4,x4,rfl,hx4⟩; have HB4:=aa (HB5.out.trans (hb4.mono HB5.out.size)); have HX4:=aa hx4; clear hb4 hx4)
    | fail)
   ·rename_i h8
    have hsl : x4.size = (PB.enc M.tree).length:=aS HX4.out
    have HE:=aa (show encE M.tree = 5 by rw [HEE.out,if_pos (by omega)])
    clear h8 hsl
    go_ret2
    exact ⟨HB4.out,by rw [show encS M.tree = ⟨#[]⟩ by unfold encS; rw [HE.out]; rfl,HE.out]; rfl⟩
   ·rename_i h8
    have hsl : x4.size = (PB.enc M.tree).length:=aS HX4.out
    have HE:=aa (show encE M.tree = 0 by rw [HEE.out,if_neg (by omega)])
    have HES:=aa (show x4 = encS M.tree by unfold encS; rw [if_pos HE.out]; exact ee HX4.out)
    clear h8 hsl
    go_ret2
    exact ⟨HB4.out,by rw [HE.out,<- HES.out]; rfl⟩
theorem rencode_no (M : Ms) (m : MC) (S : Nat -> Prop) (w : World) (h : MsAt w S M m) (hr : M.right = false) :
  Calls Tryz.prog 8 #[.agg m.cells] w (fun e w' => Below w.heap.size w w' /\ e = .returned (.tuple #[.string ⟨#[]⟩,.int .i64 4])):=by
 have HS:=aa bd
 obtain ⟨cs,hcs⟩ : ∃ cs,cs = m.cells:=⟨_,rfl⟩
 have HSZ : Hid (cs.size = 31):=by rw [hcs]; rfl
 rw [<- hcs]
 have hB:=(Below.refl w.heap.size w).alloc (Nat.le_refl _) (.cells cs 30)
 have HB:=aa hB
 have HBK:=aa (Bk.new w 30 cs)
 have HRT:=aa (show Calls Tryz.prog 10 #[.agg cs] (w.alloc (.cells cs 30)) (ap false _) by
  have:=ft M m S _ (h.keep hB.size (fun x _ hlt => hB.block x hlt) (fun _ h _ => h)); rwa [hr,<- hcs] at this)
 clear hcs hB h hr
 go_enter Tryz.func8,Tryz.ntmps8
 go_wp2_with (first
  | (refine wpList_load_row rfl 30 (.tmp 1) rfl w.heap.size rfl 30 cs (0,0) _ HBK.out Tryz.underlying30 rfl (by rw [HSZ.out]; exact HS.out) ?_)
  | (go_at_call 10; refine HRT.out.mono ?_; rintro e w1 ⟨rfl,hb1⟩; have HB1:=aa (HB.out.trans (hb1.mono HB.out.size)); clear hb1)
  | fail)
 go_ret2
 exact ⟨HB1.out,rfl⟩
theorem rencode_any (M : Ms) (m : MC) (S : Nat -> Prop) (w : World) (h : MsAt w S M m) (hw : M.wt <= 40000) (hf : M.filter.wt <= 10000) : Calls Tryz.prog 8 #[.agg m.cells] w (MEncPost M w):=by
 cases hr : M.right with
 | true => exact (rencode_right M m S w h hr hw hf).mono fun e w' ⟨h1,h2⟩ => ⟨h1,.inl ⟨hr,h2⟩⟩
 | false => exact (rencode_no M m S w h hr).mono fun e w' ⟨h1,h2⟩ => ⟨h1,.inr ⟨hr,h2⟩⟩
namespace PB
def sg (l : List UInt8) (i : Nat) : Int:=if i = 0 then (if byt l 0 < 128 then 0 else -1) else sgn (l.take i)
theorem byt_get {l : List UInt8} {i : Nat} (h : i < l.length) : byt l i = l[i].toNat:=by
 unfold byt; rw [List.getD_eq_getElem?_getD,List.getElem?_eq_getElem h]; rfl
theorem sg_next {l : List UInt8} {i : Nat} (h : i < l.length) : sg l (i + 1) = sg l i * 256 + (byt l i : Int):=by
 unfold sg
 rw [if_neg (by omega),List.take_succ_eq_append_getElem h,byt_get h]
 by_cases h0 : i = 0
 ·subst h0
  rw [if_pos rfl]
  obtain ⟨c,t,rfl⟩:=List.exists_cons_of_length_pos h
  simp only [List.take_zero,List.nil_append,List.getElem_cons_zero]
  unfold sgn
  have e0 : byt [c] 0 = c.toNat:=rfl
  have e1 : byt (c :: t) 0 = c.toNat:=rfl
  rw [e0,e1]
  simp only [List.tail_cons,List.foldl_nil]
  split <;> omega
 ·rw [if_neg h0,sgn_snoc]
  intro e
  have:=congrArg List.length e
  rw [List.length_take,List.length_nil] at this
  omega
theorem sg_low {l : List UInt8} {i : Nat} (h : i < l.length) : low (sg l (i + 1)) = l[i] /\ sg l (i + 1) / 256 = sg l i:=by
 have hb:=byt_lt l i
 rw [sg_next h]
 constructor
 ·apply UInt8.toNat_inj.1
  have:=low_val (sg l i * 256 + (byt l i : Int))
  rw [byt_get h] at this hb |-
  omega
 ·omega
theorem sg_zero {l : List UInt8} : ∀ {i : Nat},1 <= i -> i <= l.length -> sg l i = 0 -> byt l 0 = 0 /\ (2 <= i -> byt l 1 = 0)
 | i + 1,_,h,h0 => by
  rw [sg_next (by omega)] at h0
  have hb:=byt_lt l i
  have h1 : sg l i = 0 /\ byt l i = 0:=by omega
  by_cases hi : i = 0
  ·subst hi; exact ⟨h1.2,by omega⟩
  ·have ih:=sg_zero (by omega) (by omega) h1.1
   refine ⟨ih.1,fun _ => ?_⟩
   by_cases h2 : i = 1
   ·subst h2; exact h1.2
   ·exact ih.2 (by omega)
theorem sg_ones {l : List UInt8} : ∀ {i : Nat},1 <= i -> i <= l.length -> sg l i = -1 -> byt l 0 = 255 /\ (2 <= i -> byt l 1 = 255)
 | i + 1,_,h,h0 => by
  rw [sg_next (by omega)] at h0
  have hb:=byt_lt l i
  have h1 : sg l i = -1 /\ byt l i = 255:=by omega
  by_cases hi : i = 0
  ·subst hi; exact ⟨h1.2,by omega⟩
  ·have ih:=sg_ones (by omega) (by omega) h1.1
   refine ⟨ih.1,fun _ => ?_⟩
   by_cases h2 : i = 1
   ·subst h2; exact h1.2
   ·exact ih.2 (by omega)
theorem sg_full {l : List UInt8} (h : 1 <= l.length) : sg l l.length = sgn l:=by unfold sg; rw [if_neg (by omega),List.take_length]
theorem byt_drop (l : List UInt8) (i j : Nat) : byt (l.drop i) j = byt l (i + j):=by
 unfold byt; rw [List.getD_eq_getElem?_getD,List.getD_eq_getElem?_getD,List.getElem?_drop]
theorem num_min {l : List UInt8} (h : isNum false l = true) : 1 <= l.length /\ l.length <= 8 /\ (1 < l.length -> ¬ (byt l 0 = 0 /\ byt l 1 < 128) /\ ¬ (byt l 0 = 255 /\ 128 <= byt l 1)):=by
 unfold isNum at h
 simp only [Bool.not_false,Bool.true_and,Bool.and_eq_true,decide_eq_true_eq,Bool.not_eq_true',Bool.and_eq_false_iff,Bool.or_eq_false_iff,decide_eq_false_iff_not,beq_eq_false_iff_ne] at h
 refine ⟨h.1.1,h.1.2,fun h1 => ?_⟩
 rcases h.2 with h2 | ⟨h2,h3⟩
 ·omega
 ·constructor
  ·rintro ⟨a,b⟩; rcases h2 with h2 | h2 <;> omega
  ·rintro ⟨a,b⟩; rcases h3 with h3 | h3 <;> omega
theorem of_num_at {l : List UInt8} (h : isNum false l = true) (hb1 : -9223372036854775808 <= sgn l) (hb2 : sgn l <= 9223372036854775807) : ∀ k,k < l.length -> OfAt (sgn l) (l.drop (l.length - 1 - k)) (sg l (l.length - 1 - k))
 | 0,hk => by
  have hs:=OfAt.start (sgn l)
  have hl:=sg_low (l:=l) (i:=l.length - 1) (by omega)
  rw [show l.length - 1 + 1 = l.length by omega,sg_full (by omega)] at hl
  rw [hl.1,hl.2] at hs
  rw [Nat.sub_zero,List.drop_eq_getElem_cons (by omega),List.drop_of_length_le (by omega)]
  exact hs
 | k + 1,hk => by
  have ih:=of_num_at h hb1 hb2 k (by omega)
  have hm:=num_min h
  have e : l.length - 1 - k = (l.length - 1 - (k + 1)) + 1:=by omega
  rw [e] at ih
  generalize l.length - 1 - (k + 1) = i at ih e
  have hi : i + 1 < l.length:=by omega
  have hn:=ih.next hb1 hb2 ?_
  ·have hl:=sg_low (l:=l) (i:=i) (by omega)
   rw [hl.1,hl.2,<- List.drop_eq_getElem_cons (by omega)] at hn
   exact hn
  ·intro hen
   unfold enough at hen
   rw [byt_drop,Nat.add_zero] at hen
   have h2:=hm.2.2 (by omega)
   rcases hen with ⟨h0,hx⟩ | ⟨h0,hx⟩
   ·have hz:=sg_zero (by omega) (by omega) h0
    by_cases hi0 : i = 0
    ·subst hi0; exact h2.1 ⟨hz.1,hx⟩
    ·have:=hz.2 (by omega); exact h2.1 ⟨hz.1,by omega⟩
   ·have hz:=sg_ones (by omega) (by omega) h0
    by_cases hi0 : i = 0
    ·subst hi0; exact h2.2 ⟨hz.1,hx⟩
    ·have:=hz.2 (by omega); exact h2.2 ⟨hz.1,by omega⟩
theorem of_num {l : List UInt8} (h : isNum false l = true) (hb1 : -9223372036854775808 <= sgn l) (hb2 : sgn l <= 9223372036854775807) : ofNum (sgn l) = l:=by
 have hm:=num_min h
 have ha:=of_num_at h hb1 hb2 (l.length - 1) (by omega)
 rw [Nat.sub_self,List.drop_zero] at ha
 refine (ha.done ?_).2.2.symm
 unfold enough sg
 rw [if_pos rfl]
 split <;> omega
end PB
mutual
def Tl.okT : Tl -> Prop
 | .mk _ k g b ks => 0 <= g /\ (k = true -> b = ⟨#[]⟩) /\ (k = false -> ks = []) /\ Tl.oksT ks
def Tl.oksT : List Tl -> Prop
 | [] => True
 | k :: ks => k.okT /\ Tl.oksT ks
end
mutual
def Tl.oddB (q : Bool) : Tl -> Bool
 | .mk c k t b ks => (c == 2 && (t == 9 || (!k && (!ai b && decide (t <= 2)))) || (q && (c == 0 && (t == 1 && b.toList == [0])))) || Tl.oddsB q ks
def Tl.oddsB (q : Bool) : List Tl -> Bool
 | [] => false
 | k :: ks => k.oddB q || Tl.oddsB q ks
end
theorem okT_mk {c : Int} {k : Bool} {t : Int} {b : ByteArray} {ks : List Tl} (h : (Tl.mk c k t b ks).okT) : (k = true -> b = ⟨#[]⟩) /\ (k = false -> ks = []) /\ Tl.oksT ks:=by
 unfold Tl.okT at h; exact h.2
theorem okT_pos {c : Int} {k : Bool} {t : Int} {b : ByteArray} {ks : List Tl} (h : (Tl.mk c k t b ks).okT) : 0 <= t:=by
 unfold Tl.okT at h; exact h.1
theorem et {k : Tl} {ks : List Tl} (h : Tl.oksT (k :: ks)) : k.okT /\ Tl.oksT ks:=by unfold Tl.oksT at h; exact h
theorem bU {cls tag : Int} {cons : Bool} {ks : List Tl} {t : Tl} {rest : List Tl} (h : headP cls tag cons ks = some (t,rest)) (ho : Tl.oksT ks) :
  ks = .mk cls cons tag t.body t.kids :: rest /\ t = .mk cls cons tag t.body t.kids /\ (cons = true -> t.body = ⟨#[]⟩) /\ (cons = false -> t.kids = []) /\ Tl.oksT t.kids /\ Tl.oksT rest:=by
 obtain ⟨rfl,hb⟩:=aX h
 obtain ⟨c,k,g,b,l⟩:=t
 unfold Tl.isB at hb
 simp only [Bool.and_eq_true,beq_iff_eq] at hb
 obtain ⟨rfl,rfl,rfl⟩:=hb
 have h1:=et ho
 have h2:=okT_mk h1.1
 exact ⟨rfl,rfl,h2.1,h2.2.1,h2.2.2,h1.2⟩
theorem bj {ks : List Tl} {s : ByteArray} {rest : List Tl} (h : aU ks = some (s,rest)) (ho : Tl.oksT ks) : ks = tstr s :: rest /\ Tl.oksT rest:=by
 obtain ⟨t,h1,rfl,h2⟩:=eF h
 obtain ⟨e1,e2,e3,e4,e5,e6⟩:=bU h2 ho
 rw [e4 rfl] at e1
 exact ⟨e1,e6⟩
theorem dY {g lo hi n : Int} {ks : List Tl} {rest : List Tl} (h : numP g lo hi ks = some (n,rest)) (ho : Tl.oksT ks) (h3 : -9223372036854775808 <= lo) (h4 : hi <= 9223372036854775807) : ks = tnum g n :: rest /\ Tl.oksT rest /\ lo <= n /\ n <= hi:=by
 unfold numP at h
 cases hh : headP 0 g false ks with
 | none => rw [hh] at h; simp at h
 | some p =>
  obtain ⟨t,r⟩:=p
  rw [hh] at h
  simp only [Option.bind_some,cS] at h
  obtain ⟨e1,e2,e3,e4,e5,e6⟩:=bU hh ho
  split at h
  ·next hq =>
   simp at h
   obtain ⟨rfl,rfl⟩:=h
   have hi2 : lo <= PB.sgn t.body.data.toList /\ PB.sgn t.body.data.toList <= hi:=by simpa [inB] using hq.2
   rw [e4 rfl] at e1
   refine ⟨?_,e6,hi2.1,hi2.2⟩
   unfold tnum
   rw [PB.of_num hq.1 (by omega) (by omega)]
   exact e1
  ·simp at h
theorem truth_is {q : Bool} {ks : List Tl} {rest : List Tl} (h : cC ks = some (q,rest)) (ho : Tl.oksT ks) : ks = bu q :: rest /\ Tl.oksT rest:=by
 unfold cC at h
 cases hh : headP 0 1 false ks with
 | none => rw [hh] at h; simp at h
 | some p =>
  obtain ⟨t,r⟩:=p
  rw [hh] at h
  simp only [Option.bind_some] at h
  obtain ⟨e1,e2,e3,e4,e5,e6⟩:=bU hh ho
  rw [e4 rfl] at e1
  have hby : ∀ l : List UInt8,t.body.toList = l -> t.body = ⟨l.toArray⟩:=fun l hl => ee (by rw [<- hl,ByteArray.toList_eq])
  unfold dP at h
  simp only [Bool.false_eq_true,if_false] at h
  by_cases h0 : t.body.toList = [0]
  ·simp [h0] at h
   obtain ⟨rfl,rfl⟩:=h
   rw [hby _ h0] at e1
   exact ⟨e1,e6⟩
  ·by_cases h1 : t.body.toList = [255]
   ·simp [h0,h1] at h
    obtain ⟨rfl,rfl⟩:=h
    rw [hby _ h1] at e1
    exact ⟨e1,e6⟩
   ·simp [h0,h1] at h
theorem dS {g : Int} {ks l rest : List Tl} (h : aR g ks = some (l,rest)) (ho : Tl.oksT ks) : ks = .mk 0 true g ⟨#[]⟩ l :: rest /\ Tl.oksT l /\ Tl.oksT rest:=by
 unfold aR at h
 cases hh : headP 0 g true ks with
 | none => rw [hh] at h; simp at h
 | some p =>
  obtain ⟨t,r⟩:=p
  rw [hh] at h
  simp at h
  obtain ⟨rfl,rfl⟩:=h
  obtain ⟨e1,e2,e3,e4,e5,e6⟩:=bU hh ho
  rw [e3 rfl] at e1
  exact ⟨e1,e5,e6⟩
theorem fj : ∀ {ks : List Tl} {ss : List ByteArray},bn ks = some ss -> Tl.oksT ks -> ks = ss.map tstr
 | [],ss,h,ho => by simp [bn] at h; subst h; rfl
 | k :: ks,ss,h,ho => by
  simp only [bn] at h
  cases hh : headP 0 4 false (k :: ks) with
  | none => rw [hh] at h; simp at h
  | some p =>
   obtain ⟨t,r⟩:=p
   rw [hh] at h
   simp only at h
   obtain ⟨e1,e2,e3,e4,e5,e6⟩:=bU hh ho
   injection e1 with e1 e7
   subst e7
   cases hm : bn ks with
   | none => rw [hm] at h; simp at h
   | some l =>
    rw [hm] at h
    simp at h
    subst h
    rw [fj hm e6,e1,e4 rfl]
    rfl
theorem attr_is {ks : List Tl} {a : ByteArray × List ByteArray} (h : cJ ks = some a) (ho : Tl.oksT ks) : ks = [tstr a.1,.mk 0 true 17 ⟨#[]⟩ (a.2.map tstr)]:=by
 unfold cJ at h
 cases h1 : aU ks with
 | none => rw [h1] at h; simp at h
 | some p =>
  obtain ⟨s,r⟩:=p
  rw [h1] at h
  simp only [Option.bind_some] at h
  obtain ⟨rfl,ho1⟩:=bj h1 ho
  cases h2 : aR 17 r with
  | none => rw [h2] at h; simp at h
  | some p =>
   obtain ⟨l,r2⟩:=p
   rw [h2] at h
   simp only [Option.bind_some] at h
   obtain ⟨rfl,ho2,ho3⟩:=dS h2 ho1
   cases h3 : bn l with
   | none => rw [h3] at h; simp at h
   | some ss =>
    rw [h3] at h
    simp at h
    obtain ⟨rfl,rfl⟩:=h
    rw [fj h3 ho2]
theorem attrs_are : ∀ {ks : List Tl} {az : List At},ba ks = some az -> Tl.oksT ks -> ks = az.map tat
 | [],az,h,ho => by simp [ba] at h; subst h; rfl
 | k :: ks,az,h,ho => by
  simp only [ba] at h
  cases hh : headP 0 16 true (k :: ks) with
  | none => rw [hh] at h; simp at h
  | some p =>
   obtain ⟨t,r⟩:=p
   rw [hh] at h
   simp only at h
   obtain ⟨e1,e2,e3,e4,e5,e6⟩:=bU hh ho
   injection e1 with e1 e7
   subst e7
   cases ha : cJ t.kids with
   | none => rw [ha] at h; simp at h
   | some a =>
    rw [ha] at h
    cases hm : ba ks with
    | none => rw [hm] at h; simp at h
    | some l =>
     rw [hm] at h
     simp at h
     subst h
     rw [attrs_are hm e6,e1,e3 rfl,attr_is ha e5]
     rfl
theorem one_is {ks : List Tl} {x : Md} (h : oneP ks = some x) (ho : Tl.oksT ks) : ks = [tnum 10 x.1,bX x.2.1 x.2.2]:=by
 unfold oneP at h
 cases h1 : numP 10 0 2 ks with
 | none => rw [h1] at h; simp at h
 | some p =>
  obtain ⟨n,r⟩:=p
  rw [h1] at h
  simp only [Option.bind_some] at h
  obtain ⟨rfl,ho1,-⟩:=dY h1 ho (by omega) (by omega)
  cases h2 : aR 16 r with
  | none => rw [h2] at h; simp at h
  | some p =>
   obtain ⟨l,r2⟩:=p
   rw [h2] at h
   simp only [Option.bind_some] at h
   obtain ⟨rfl,ho2,ho3⟩:=dS h2 ho1
   cases h3 : cJ l with
   | none => rw [h3] at h; simp at h
   | some a =>
    rw [h3] at h
    simp at h
    obtain ⟨rfl,rfl⟩:=h
    rw [attr_is h3 ho2]
    rfl
theorem mods_are : ∀ {ks : List Tl} {az : List Md},bZ ks = some az -> Tl.oksT ks -> ks = az.map tmod
 | [],az,h,ho => by simp [bZ] at h; subst h; rfl
 | k :: ks,az,h,ho => by
  simp only [bZ] at h
  cases hh : headP 0 16 true (k :: ks) with
  | none => rw [hh] at h; simp at h
  | some p =>
   obtain ⟨t,r⟩:=p
   rw [hh] at h
   simp only at h
   obtain ⟨e1,e2,e3,e4,e5,e6⟩:=bU hh ho
   injection e1 with e1 e7
   subst e7
   cases ha : oneP t.kids with
   | none => rw [ha] at h; simp at h
   | some a =>
    rw [ha] at h
    cases hm : bZ ks with
    | none => rw [hm] at h; simp at h
    | some l =>
     rw [hm] at h
     simp at h
     subst h
     rw [mods_are hm e6,e1,e3 rfl,one_is ha e5]
     rfl
theorem bM {q : Bool} {k : Tl} {ks : List Tl} (h : Tl.oddsB q (k :: ks) = false) : k.oddB q = false /\ Tl.oddsB q ks = false:=by
 unfold Tl.oddsB at h; simpa using h
theorem eD {q : Bool} {c : Int} {k : Bool} {t : Int} {b : ByteArray} {ks : List Tl} (h : (Tl.mk c k t b ks).oddB q = false) : (c = 2 -> t ≠ 9 /\ (k = false -> t <= 2 -> ai b = true)) /\ (q = true -> c = 0 -> t = 1 -> b.toList ≠ [0]) /\ Tl.oddsB q ks = false:=by
 unfold Tl.oddB at h
 simp only [Bool.or_eq_false_iff,Bool.and_eq_false_iff,beq_eq_false_iff_ne,Bool.not_eq_false',decide_eq_false_iff_not] at h
 obtain ⟨⟨h1,h2⟩,h3⟩:=h
 refine ⟨fun hc => ?_,fun hq hc ht => ?_,h3⟩
 ·rcases h1 with h1 | ⟨h1,h4⟩
  ·exact absurd hc h1
  ·refine ⟨h1,fun hk ht => ?_⟩
   rcases h4 with h4 | h4 | h4
   ·rw [hk] at h4; simp at h4
   ·exact h4
   ·exact absurd ht h4
 ·rcases h2 with h2 | h2 | h2 | h2
  ·rw [hq] at h2; simp at h2
  ·exact absurd hc h2
  ·exact absurd ht h2
  ·exact h2
theorem full_e : ai ⟨#[]⟩ = false:=by unfold ai; simp [ByteArray.toList_eq]
theorem eC {g : Int} {ks : List Tl} {t : Tl} {rest : List Tl} (h : headP 2 g false ks = some (t,rest)) (ho : Tl.oksT ks) : ks = town g t.body :: rest /\ Tl.oksT rest:=by
 obtain ⟨e1,e2,e3,e4,e5,e6⟩:=bU h ho
 rw [e4 rfl] at e1
 exact ⟨e1,e6⟩
theorem own_full {g : Int} {s : ByteArray} {r : List Tl} (h : Tl.oddsB false (town g s :: r) = false) (hg : g <= 2) : ai s = true /\ Tl.oddsB false r = false:=by
 have h1:=bM h
 exact ⟨((eD h1.1).1 rfl).2 rfl hg,h1.2⟩
theorem once_is {g : Int} {ks rest : List Tl} {s : ByteArray} (h : cu g ks = (s,rest)) (ho : Tl.oksT ks) (hd : Tl.oddsB false ks = false) (hg : g <= 2) : ks = (if ai s then [town g s] else []) ++ rest /\ Tl.oksT rest /\ Tl.oddsB false rest = false:=by
 unfold cu at h
 cases hh : headP 2 g false ks with
 | none =>
  rw [hh] at h
  simp only [Prod.mk.injEq] at h
  obtain ⟨rfl,rfl⟩:=h
  exact ⟨by rw [full_e]; rfl,ho,hd⟩
 | some p =>
  obtain ⟨t,r⟩:=p
  rw [hh] at h
  simp only [Prod.mk.injEq] at h
  obtain ⟨rfl,rfl⟩:=h
  obtain ⟨rfl,ho1⟩:=eC hh ho
  have h1:=own_full hd hg
  exact ⟨by rw [if_pos h1.1]; rfl,ho1,h1.2⟩
theorem any_is : ∀ {ks : List Tl},Tl.oksT ks -> Tl.oddsB false ks = false -> ks = (anyP ks).1.map (town 1) ++ (anyP ks).2 /\ Tl.oksT (anyP ks).2 /\ Tl.oddsB false (anyP ks).2 = false
 | [],ho,hd => ⟨rfl,ho,hd⟩
 | k :: ks,ho,hd => by
  simp only [anyP]
  cases hh : headP 2 1 false (k :: ks) with
  | none => exact ⟨rfl,ho,hd⟩
  | some p =>
   obtain ⟨t,r⟩:=p
   obtain ⟨e1,ho1⟩:=eC hh ho
   injection e1 with e1 e7
   subst e7
   subst e1
   have h1:=own_full hd (by omega)
   have ih:=any_is ho1 h1.2
   simp only
   refine ⟨?_,ih.2⟩
   rw [List.map_cons,List.cons_append,<- ih.1]
theorem pieces_are {ks : List Tl} {f l : ByteArray} {az : List ByteArray} (h : bv ks = some (f,az,l)) (ho : Tl.oksT ks) (hd : Tl.oddsB false ks = false) : ks = aB f az l:=by
 unfold bv at h
 simp only at h
 obtain ⟨s,r,h1⟩ : ∃ s r,cu 0 ks = (s,r):=⟨_,_,rfl⟩
 rw [h1] at h
 obtain ⟨rfl,ho1,hd1⟩:=once_is h1 ho hd (by omega)
 have h2:=any_is ho1 hd1
 obtain ⟨x,y,h3⟩ : ∃ x y,anyP r = (x,y):=⟨_,_,rfl⟩
 simp only [h3] at h h2
 obtain ⟨u,v,h4⟩ : ∃ u v,cu 2 y = (u,v):=⟨_,_,rfl⟩
 rw [h4] at h
 obtain ⟨h5,ho5,hd5⟩:=once_is h4 h2.2.1 h2.2.2 (by omega)
 simp only at h
 split at h
 ·next e =>
  simp at h
  obtain ⟨rfl,rfl,rfl⟩:=h
  subst e
  unfold aB
  rw [List.append_nil] at h5
  rw [<- h5,<- h2.1]
 ·simp at h
mutual
theorem fil_is : ∀ {t : Tl} {f : Fl},filP t = some f -> t.okT -> t.oddB false = false -> aV f = t
 | .mk c k t s ks,f,h,ho,hd => by
  unfold filP at h
  have ho1:=okT_mk ho
  have hd1:=eD hd
  by_cases hc : c ≠ 2 \/ k = (t == 7)
  ·rw [if_pos hc] at h; simp at h
  rw [if_neg hc] at h
  have hc2 : c = 2:=by by_cases e : c = 2; exact e; exact absurd (.inl e) hc
  have hk : k ≠ (t == 7):=fun e => hc (.inr e)
  subst hc2
  have ht0:=okT_pos ho
  have hk7 : t ≠ 7 -> k = true:=fun e => by
   have : (t == 7) = false:=by rw [beq_eq_false_iff_ne]; exact e
   rw [this] at hk
   simpa using hk
  have hs : t ≠ 7 -> s = ⟨#[]⟩:=fun e => ho1.1 (hk7 e)
  by_cases h2 : t <= 2
  ·rw [if_pos h2] at h
   cases hm : bK ks with
   | none => rw [hm] at h; simp at h
   | some l =>
    rw [hm] at h
    simp at h
    subst h
    have:=fils_are hm ho1.2.2 hd1.2.2
    unfold aV
    rw [if_pos (by omega),this,hk7 (by omega),hs (by omega)]
  rw [if_neg h2] at h
  by_cases h7 : t = 7
  ·rw [if_pos h7] at h
   simp at h
   subst h
   have hk1 : k = false:=by
    have : (t == 7) = true:=by rw [beq_iff_eq]; exact h7
    rw [this] at hk
    simpa using hk
   unfold aV
   rw [if_neg (by omega),if_pos h7,hk1,ho1.2.1 hk1,h7]
   rfl
  rw [if_neg h7] at h
  by_cases h4 : t = 4
  ·rw [if_pos h4] at h
   subst h4
   cases h5 : aU ks with
   | none => rw [h5] at h; simp at h
   | some p =>
    obtain ⟨a,r⟩:=p
    rw [h5] at h
    simp only [Option.bind_some] at h
    obtain ⟨rfl,o1⟩:=bj h5 ho1.2.2
    cases h6 : aR 16 r with
    | none => rw [h6] at h; simp at h
    | some p =>
     obtain ⟨l,r2⟩:=p
     rw [h6] at h
     simp only [Option.bind_some] at h
     obtain ⟨rfl,o2,o3⟩:=dS h6 o1
     cases h8 : bv l with
     | none => rw [h8] at h; simp at h
     | some p =>
      obtain ⟨x,y,z⟩:=p
      rw [h8] at h
      simp at h
      obtain ⟨rfl,rfl⟩:=h
      have d1:=bM (bM hd1.2.2).2
      have d2:=eD d1.1
      unfold aV
      rw [if_neg (by omega),if_neg (by omega),if_pos rfl,hk7 (by omega),hs (by omega),pieces_are h8 o2 d2.2.2]
      rfl
  rw [if_neg h4] at h
  by_cases h8 : t <= 8
  ·rw [if_pos h8] at h
   cases h5 : aU ks with
   | none => rw [h5] at h; simp at h
   | some p =>
    obtain ⟨a,r⟩:=p
    rw [h5] at h
    simp only [Option.bind_some] at h
    obtain ⟨rfl,o1⟩:=bj h5 ho1.2.2
    cases h6 : aU r with
    | none => rw [h6] at h; simp at h
    | some p =>
     obtain ⟨v,r2⟩:=p
     rw [h6] at h
     simp at h
     obtain ⟨rfl,rfl⟩:=h
     obtain ⟨rfl,o2⟩:=bj h6 o1
     unfold aV
     rw [if_neg (by omega),if_neg (by omega),if_neg (by omega),hk7 (by omega),hs (by omega)]
  rw [if_neg h8] at h
  by_cases h9 : t = 9
  ·exact absurd h9 (hd1.1 rfl).1
  ·rw [if_neg h9] at h; simp at h
theorem fils_are : ∀ {ks : List Tl} {fs : List Fl},bK ks = some fs -> Tl.oksT ks -> Tl.oddsB false ks = false -> bx fs = ks
 | [],fs,h,ho,hd => by simp [bK] at h; subst h; simp [bx]
 | k :: ks,fs,h,ho,hd => by
  simp only [bK] at h
  cases h1 : filP k with
  | none => rw [h1] at h; simp at h
  | some f =>
   rw [h1] at h
   cases h2 : bK ks with
   | none => rw [h2] at h; simp at h
   | some l =>
    rw [h2] at h
    simp at h
    subst h
    have a:=bM hd
    have b:=et ho
    unfold bx
    rw [fil_is h1 b.1 a.1,fils_are h2 b.2 a.2]
end
theorem ctl_is {ks : List Tl} {c : Co} (h : ctlP ks = some c) (ho : Tl.oksT ks) (hd : Tl.oddsB true ks = false) :
  ks = tstr c.1 :: ((if c.2.1 then [bu true] else []) ++ (if c.2.2.1 then [tstr c.2.2.2] else [])):=by
 unfold ctlP at h
 cases h1 : aU ks with
 | none => rw [h1] at h; simp at h
 | some p =>
  obtain ⟨a,r⟩:=p
  rw [h1] at h
  simp only [Option.bind_some] at h
  obtain ⟨rfl,o1⟩:=bj h1 ho
  have d1:=(bM hd).2
  cases h2 : crP r with
  | none => rw [h2] at h; simp at h
  | some p =>
   obtain ⟨q,r2⟩:=p
   rw [h2] at h
   simp only [Option.bind_some] at h
   have hr : r = (if q then [bu true] else []) ++ r2 /\ Tl.oksT r2:=by
    unfold crP at h2
    split at h2
    ·obtain ⟨rfl,o2⟩:=truth_is h2 o1
     have d2:=eD (bM d1).1
     cases q with
     | true => exact ⟨rfl,o2⟩
     | false =>
      refine absurd ?_ (d2.2.1 rfl rfl rfl)
      rw [ByteArray.toList_eq]; rfl
    ·simp at h2
     obtain ⟨rfl,rfl⟩:=h2
     exact ⟨rfl,o1⟩
   obtain ⟨rfl,o2⟩:=hr
   cases h3 : headP 0 4 false r2 with
   | none =>
    rw [h3] at h
    simp only at h
    split at h
    ·next e =>
     simp at h
     subst h
     subst e
     simp
    ·simp at h
   | some p =>
    obtain ⟨t,r3⟩:=p
    rw [h3] at h
    simp only at h
    split at h
    ·next e =>
     simp at h
     subst h
     subst e
     obtain ⟨e1,e2,e3,e4,e5,e6⟩:=bU h3 o2
     rw [e4 rfl] at e1
     rw [e1]
     simp
     rfl
    ·simp at h
theorem ctls_are : ∀ {ks : List Tl} {az : List Co},bN ks = some az -> Tl.oksT ks -> Tl.oddsB true ks = false -> ks = az.map tctl
 | [],az,h,ho,hd => by simp [bN] at h; subst h; rfl
 | k :: ks,az,h,ho,hd => by
  simp only [bN] at h
  cases hh : headP 0 16 true (k :: ks) with
  | none => rw [hh] at h; simp at h
  | some p =>
   obtain ⟨t,r⟩:=p
   rw [hh] at h
   simp only at h
   obtain ⟨e1,e2,e3,e4,e5,e6⟩:=bU hh ho
   injection e1 with e1 e7
   subst e7
   have d:=bM hd
   rw [e1] at d
   have d1:=eD d.1
   cases ha : ctlP t.kids with
   | none => rw [ha] at h; simp at h
   | some a =>
    rw [ha] at h
    cases hm : bN ks with
    | none => rw [hm] at h; simp at h
    | some l =>
     rw [hm] at h
     simp at h
     subst h
     rw [ctls_are hm e6 d.2,e1,e3 rfl,ctl_is ha e5 d1.2.2]
     rfl
theorem bind_is {id : Int} {ks rest : List Tl} {M : Ms} (h : cI id ks = some (M,rest)) (ho : Tl.oksT ks) : ks = M.bindT ++ rest /\ M.id = id /\ M.op = 0 /\ M.controls = []:=by
 unfold cI at h
 simp only [Option.bind_eq_some_iff] at h
 obtain ⟨⟨n,r1⟩,h1,⟨a,r2⟩,h2,h3⟩:=h
 obtain ⟨rfl,o1,-⟩:=dY h1 ho (by omega) (by omega)
 obtain ⟨rfl,o2⟩:=bj h2 o1
 split at h3
 ·next t r hh =>
  simp at h3
  obtain ⟨rfl,rfl⟩:=h3
  obtain ⟨e1,o3⟩:=eC hh o2
  simp only at e1
  rw [e1]
  exact ⟨rfl,rfl,rfl,rfl⟩
 ·next hh =>
  simp only [Option.bind_eq_some_iff] at h3
  obtain ⟨⟨x,r3⟩,h4,⟨y,r4⟩,h5,h6⟩:=h3
  obtain ⟨e1,e2,e3,e4,e5,e6⟩:=bU h4 o2
  obtain ⟨f1,o5⟩:=bj h5 e5
  simp only at e1 f1 h6
  rw [e1,e3 rfl,f1]
  split at h6
  ·next t l hq =>
   split at h6
   ·next e =>
    simp at h6
    obtain ⟨rfl,rfl⟩:=h6
    obtain ⟨g1,g2,g3,g4,g5,g6⟩:=bU hq o5
    rw [g1,g4 rfl,e]
    exact ⟨rfl,rfl,rfl,rfl⟩
   ·simp at h6
  ·split at h6
   ·next e =>
    simp at h6
    obtain ⟨rfl,rfl⟩:=h6
    rw [e]
    exact ⟨rfl,rfl,rfl,rfl⟩
   ·simp at h6
theorem ent_is {id op : Int} {ks rest : List Tl} {M : Ms} (h : entP id op ks = some (M,rest)) (ho : Tl.oksT ks) : ks = M.entT ++ rest /\ M.id = id /\ M.op = op /\ M.controls = []:=by
 unfold entP at h
 simp only [Option.bind_eq_some_iff] at h
 obtain ⟨⟨a,r1⟩,h1,⟨l,r2⟩,h2,az,h3,h4⟩:=h
 simp at h4
 obtain ⟨rfl,rfl⟩:=h4
 obtain ⟨rfl,o1⟩:=bj h1 ho
 obtain ⟨rfl,o2,o3⟩:=dS h2 o1
 rw [attrs_are (ks:=l) h3 o2]
 exact ⟨rfl,rfl,rfl,rfl⟩
theorem mod_is {id : Int} {ks rest : List Tl} {M : Ms} (h : modP id ks = some (M,rest)) (ho : Tl.oksT ks) : ks = M.modT ++ rest /\ M.id = id /\ M.op = 6 /\ M.controls = []:=by
 unfold modP at h
 simp only [Option.bind_eq_some_iff] at h
 obtain ⟨⟨a,r1⟩,h1,⟨l,r2⟩,h2,az,h3,h4⟩:=h
 simp at h4
 obtain ⟨rfl,rfl⟩:=h4
 obtain ⟨rfl,o1⟩:=bj h1 ho
 obtain ⟨rfl,o2,o3⟩:=dS h2 o1
 rw [mods_are (ks:=l) h3 o2]
 exact ⟨rfl,rfl,rfl,rfl⟩
theorem cmp_is {id : Int} {ks rest : List Tl} {M : Ms} (h : cmpP id ks = some (M,rest)) (ho : Tl.oksT ks) : ks = M.cmpT ++ rest /\ M.id = id /\ M.op = 14 /\ M.controls = []:=by
 unfold cmpP at h
 simp only [Option.bind_eq_some_iff] at h
 obtain ⟨⟨a,r1⟩,h1,⟨l,r2⟩,h2,⟨x,r3⟩,h3,⟨y,r4⟩,h4,h5⟩:=h
 obtain ⟨rfl,o1⟩:=bj h1 ho
 obtain ⟨rfl,o2,o3⟩:=dS h2 o1
 obtain ⟨rfl,o4⟩:=bj h3 o2
 obtain ⟨rfl,o5⟩:=bj h4 o4
 split at h5
 ·next e =>
  simp at h5 e
  obtain ⟨rfl,rfl⟩:=h5
  subst e
  exact ⟨rfl,rfl,rfl,rfl⟩
 ·simp at h5
theorem ren_is {id : Int} {ks rest : List Tl} {M : Ms} (h : renP id ks = some (M,rest)) (ho : Tl.oksT ks) : ks = M.renT ++ rest /\ M.id = id /\ M.op = 12 /\ M.controls = []:=by
 unfold renP at h
 simp only [Option.bind_eq_some_iff] at h
 obtain ⟨⟨a,r1⟩,h1,⟨b,r2⟩,h2,⟨q,r3⟩,h3,h4⟩:=h
 obtain ⟨rfl,o1⟩:=bj h1 ho
 obtain ⟨rfl,o2⟩:=bj h2 o1
 obtain ⟨rfl,o3⟩:=truth_is h3 o2
 split at h4
 ·next t r hh =>
  simp at h4
  obtain ⟨rfl,rfl⟩:=h4
  obtain ⟨e1,o4⟩:=eC hh o3
  simp only at e1
  rw [e1]
  exact ⟨rfl,rfl,rfl,rfl⟩
 ·simp at h4
  obtain ⟨rfl,rfl⟩:=h4
  exact ⟨rfl,rfl,rfl,rfl⟩
theorem ext_is {id : Int} {ks rest : List Tl} {M : Ms} (h : extP id ks = some (M,rest)) (ho : Tl.oksT ks) : ks = M.extT ++ rest /\ M.id = id /\ M.op = 23 /\ M.controls = []:=by
 unfold extP at h
 simp only [Option.bind_eq_some_iff] at h
 obtain ⟨⟨a,r1⟩,h1,h4⟩:=h
 obtain ⟨e0,o3⟩:=eC h1 ho
 rw [e0]
 split at h4
 ·next t r hh =>
  simp at h4
  obtain ⟨rfl,rfl⟩:=h4
  obtain ⟨e1,o4⟩:=eC hh o3
  simp only at e1
  rw [e1]
  exact ⟨rfl,rfl,rfl,rfl⟩
 ·simp at h4
  obtain ⟨rfl,rfl⟩:=h4
  exact ⟨rfl,rfl,rfl,rfl⟩
theorem ans_is {id op : Int} {ks rest : List Tl} {M : Ms} (h : ansP id op ks = some (M,rest)) (ho : Tl.oksT ks) : ks = M.ansT ++ rest /\ M.id = id /\ M.op = op /\ M.controls = []:=by
 unfold ansP at h
 split at h
 ·simp only [Option.bind_eq_some_iff] at h
  obtain ⟨⟨n,r1⟩,h1,⟨a,r2⟩,h2,⟨b,r3⟩,h3,h4⟩:=h
  obtain ⟨rfl,o1,-⟩:=dY h1 ho (by omega) (by omega)
  obtain ⟨rfl,o2⟩:=bj h2 o1
  obtain ⟨rfl,o3⟩:=bj h3 o2
  split at h4
  ·next t r hh =>
   split at h4
   ·next e =>
    simp at h4
    obtain ⟨rfl,rfl⟩:=h4
    obtain ⟨e1,o4⟩:=eC hh o3
    simp only at e1
    rw [e1]
    refine ⟨?_,rfl,rfl,rfl⟩
    show _ = ([tnum 10 n,tstr a,tstr b] ++ (if (op == 24 && ai t.body) = true then [town 10 t.body] else [])) ++ r
    rw [if_pos e]
    rfl
   ·simp at h4
  ·simp at h4
   obtain ⟨rfl,rfl⟩:=h4
   refine ⟨?_,rfl,rfl,rfl⟩
   show _ = ([tnum 10 n,tstr a,tstr b] ++ (if (op == 24 && ai ⟨#[]⟩) = true then [town 10 ⟨#[]⟩] else [])) ++ r3
   rw [full_e,Bool.and_false,if_neg (by simp)]
   rfl
 ·simp at h
theorem sea_is {id : Int} {ks rest : List Tl} {M : Ms} (h : seaP id ks = some (M,rest)) (ho : Tl.oksT ks) (hd : Tl.oddsB false ks = false) : ks = M.seaT ++ rest /\ M.id = id /\ M.op = 3 /\ M.controls = []:=by
 unfold seaP at h
 simp only [Option.bind_eq_some_iff] at h
 obtain ⟨⟨a,r1⟩,h1,⟨b,r2⟩,h2,⟨c,r3⟩,h3,⟨d,r4⟩,h4,⟨e,r5⟩,h5,⟨q,r6⟩,h6,h7⟩:=h
 obtain ⟨rfl,o1⟩:=bj h1 ho
 obtain ⟨rfl,o2,-⟩:=dY h2 o1 (by omega) (by omega)
 obtain ⟨rfl,o3,-⟩:=dY h3 o2 (by omega) (by omega)
 obtain ⟨rfl,o4,-⟩:=dY h4 o3 (by omega) (by omega)
 obtain ⟨rfl,o5,-⟩:=dY h5 o4 (by omega) (by omega)
 obtain ⟨rfl,o6⟩:=truth_is h6 o5
 have d6:=(bM (bM (bM (bM (bM (bM hd).2).2).2).2).2).2
 simp only at h7
 split at h7
 ·simp at h7
 ·next k r =>
  simp only [Option.bind_eq_some_iff] at h7
  obtain ⟨f,h8,⟨l,r8⟩,h9,ss,h10,h11⟩:=h7
  simp at h11
  obtain ⟨rfl,rfl⟩:=h11
  have o7:=et o6
  have d7:=bM d6
  obtain ⟨rfl,o8,o9⟩:=dS h9 o7.2
  rw [fj (ks:=l) h10 o8,<- fil_is h8 o7.1 d7.1]
  exact ⟨rfl,rfl,rfl,rfl⟩
theorem op_is {id : Int} {t : Tl} {M : Ms} (h : opP id t = some M) (ho : t.okT) (hd : t.oddB false = false) : t = M.opT /\ M.id = id /\ M.controls = []:=by
 obtain ⟨c,k,op,s,ks⟩:=t
 unfold opP at h
 dsimp only at h
 have ho1:=okT_mk ho
 have hd1:=eD hd
 by_cases hc : c ≠ 1
 ·rw [if_pos hc] at h; simp at h
 rw [if_neg hc] at h
 have hc1 : c = 1:=Decidable.of_not_not hc
 subst hc1
 by_cases h2 : op = 2 /\ k = false /\ ai s = false
 ·rw [if_pos h2] at h
  simp at h
  subst h
  obtain ⟨rfl,rfl,h3⟩:=h2
  rw [ax h3,ho1.2.1 rfl]
  exact ⟨rfl,rfl,rfl⟩
 rw [if_neg h2] at h
 by_cases h10 : op = 10 /\ k = false
 ·rw [if_pos h10] at h
  simp at h
  subst h
  obtain ⟨rfl,rfl⟩:=h10
  rw [ho1.2.1 rfl]
  exact ⟨rfl,rfl,rfl⟩
 rw [if_neg h10] at h
 by_cases h16 : op = 16 /\ k = false
 ·rw [if_pos h16] at h
  obtain ⟨rfl,rfl⟩:=h16
  rw [ho1.2.1 rfl]
  simp only [Option.map_eq_some_iff] at h
  obtain ⟨n,hn,rfl⟩:=h
  unfold cS at hn
  split at hn
  ·next hq =>
   simp at hn
   subst hn
   have hi : (0 : Int) <= PB.sgn s.data.toList /\ PB.sgn s.data.toList <= 2147483647:=by simpa [inB] using hq.2
   refine ⟨?_,rfl,rfl⟩
   unfold Ms.opT
   simp only [Ms.base]
   rw [if_neg (by omega),if_neg (by omega),if_pos trivial,PB.of_num hq.1 (by omega) (by omega)]
  ·simp at hn
 rw [if_neg h16] at h
 by_cases hx : k = false \/ op = 2 \/ op = 10 \/ op = 16
 ·rw [if_pos hx] at h; simp at h
 rw [if_neg hx] at h
 have hk : k = true:=by cases k; exact absurd (.inl rfl) hx; rfl
 have hop : op ≠ 2 /\ op ≠ 10 /\ op ≠ 16:=⟨fun e => hx (.inr (.inl e)),fun e => hx (.inr (.inr (.inl e))),fun e => hx (.inr (.inr (.inr e)))⟩
 subst hk
 simp only [Option.bind_eq_some_iff] at h
 obtain ⟨⟨N,r⟩,hp,h⟩:=h
 split at h
 ·next e =>
  simp at h e
  subst h
  subst e
  suffices hh : ks = N.partsT /\ N.id = id /\ N.op = op /\ N.controls = [] by
   refine ⟨?_,hh.2.1,hh.2.2.2⟩
   unfold Ms.opT
   rw [hh.2.2.1,if_neg hop.1,if_neg hop.2.1,if_neg hop.2.2,<- hh.1,ho1.1 rfl]
  unfold a9 at hp
  by_cases e0 : op = 0
  ·rw [if_pos e0] at hp
   obtain ⟨a,b,c,d⟩:=bind_is hp ho1.2.2
   refine ⟨?_,b,by omega,d⟩
   unfold Ms.partsT
   rw [if_pos c,a,List.append_nil]
  rw [if_neg e0] at hp
  by_cases e3 : op = 3
  ·rw [if_pos e3] at hp
   obtain ⟨a,b,c,d⟩:=sea_is hp ho1.2.2 hd1.2.2
   refine ⟨?_,b,by omega,d⟩
   unfold Ms.partsT
   rw [if_neg (by omega),if_pos c,a,List.append_nil]
  rw [if_neg e3] at hp
  by_cases e4 : op = 4 \/ op = 8
  ·rw [if_pos e4] at hp
   obtain ⟨a,b,c,d⟩:=ent_is hp ho1.2.2
   refine ⟨?_,b,by omega,d⟩
   unfold Ms.partsT
   rw [if_neg (by omega),if_neg (by omega),if_pos (by omega),a,List.append_nil]
  rw [if_neg e4] at hp
  by_cases e6 : op = 6
  ·rw [if_pos e6] at hp
   obtain ⟨a,b,c,d⟩:=mod_is hp ho1.2.2
   refine ⟨?_,b,by omega,d⟩
   unfold Ms.partsT
   rw [if_neg (by omega),if_neg (by omega),if_neg (by omega),if_pos (by omega),a,List.append_nil]
  rw [if_neg e6] at hp
  by_cases e12 : op = 12
  ·rw [if_pos e12] at hp
   obtain ⟨a,b,c,d⟩:=ren_is hp ho1.2.2
   refine ⟨?_,b,by omega,d⟩
   unfold Ms.partsT
   rw [if_neg (by omega),if_neg (by omega),if_neg (by omega),if_neg (by omega),if_pos (by omega),a,List.append_nil]
  rw [if_neg e12] at hp
  by_cases e14 : op = 14
  ·rw [if_pos e14] at hp
   obtain ⟨a,b,c,d⟩:=cmp_is hp ho1.2.2
   refine ⟨?_,b,by omega,d⟩
   unfold Ms.partsT
   rw [if_neg (by omega),if_neg (by omega),if_neg (by omega),if_neg (by omega),if_neg (by omega),if_pos (by omega),a,List.append_nil]
  rw [if_neg e14] at hp
  by_cases e23 : op = 23
  ·rw [if_pos e23] at hp
   obtain ⟨a,b,c,d⟩:=ext_is hp ho1.2.2
   refine ⟨?_,b,by omega,d⟩
   unfold Ms.partsT
   rw [if_neg (by omega),if_neg (by omega),if_neg (by omega),if_neg (by omega),if_neg (by omega),if_neg (by omega),if_pos (by omega),a,List.append_nil]
  rw [if_neg e23] at hp
  obtain ⟨a,b,c,d⟩:=ans_is hp ho1.2.2
  refine ⟨?_,b,by omega,d⟩
  unfold Ms.partsT
  rw [if_neg (by omega),if_neg (by omega),if_neg (by omega),if_neg (by omega),if_neg (by omega),if_neg (by omega),if_neg (by omega),a,List.append_nil]
 ·simp at h
def oddM (ks : List Tl) : Bool:=match ks with
 | _ :: k :: r => k.oddB false || (match r with | [] => false | x :: _ => x.oddB true || x.kids.isEmpty)
 | _ => false
theorem body_is {ks : List Tl} {M : Ms} (h : du ks = some M) (ho : Tl.oksT ks) (hd : oddM ks = false) : M.tree = aF ks:=by
 unfold du at h
 simp only [Option.bind_eq_some_iff] at h
 obtain ⟨⟨n,r1⟩,h1,h2⟩:=h
 obtain ⟨rfl,o1,-⟩:=dY h1 ho (by omega) (by omega)
 simp only at h2
 split at h2
 ·simp at h2
 ·next k r =>
  simp only [Option.bind_eq_some_iff] at h2
  obtain ⟨N,h3,h4⟩:=h2
  have o2:=et o1
  simp only [oddM,Bool.or_eq_false_iff] at hd
  obtain ⟨rfl,hid,hct⟩:=op_is h3 o2.1 hd.1
  unfold dW at h4
  split at h4
  ·next c rest hh =>
   simp only [Option.bind_eq_some_iff] at h4
   obtain ⟨az,h5,h6⟩:=h4
   split at h6
   ·next e =>
    simp at h6
    subst h6
    obtain ⟨e1,e2,e3,e4,e5,e6⟩:=bU hh o2.2
    rw [e.1] at e1
    subst e1
    simp only [Bool.or_eq_false_iff] at hd
    have d1:=eD (by have:=hd.2.1; rw [e2] at this; exact this)
    have hz:=ctls_are h5 e5 d1.2.2
    have hn : az ≠ []:=by
     intro h0
     rw [h0] at hz
     have:=hd.2.2
     rw [<- e2,hz] at this
     simp at this
    unfold Ms.tree
    simp only
    rw [if_neg hn,hid,<- hz,e3 rfl]
    rfl
   ·simp at h6
  ·split at h4
   ·next e =>
    simp at h4
    subst h4
    unfold Ms.tree
    rw [hct,if_pos rfl,hid,e.1,List.append_nil]
   ·simp at h4
end Go.Proofs.YtbiglfpikfjbpaaGreatDoor
