import Derived.Test.YtbiglfpikfjbpaaGreatDoorM18
namespace Go.Proofs.YtbiglfpikfjbpaaGreatDoor
open Go.RowKit
set_option maxRecDepth 100000
set_option linter.unusedVariables false
set_option linter.unusedSimpArgs false
set_option maxHeartbeats 40000000
theorem neq_ctl (a : ByteArray) (b c : Bool) (d : ByteArray) (w : World) : (binOp .neq 54 (.agg #[.string a,.bool b,.bool c,.string d]) (.agg #[.string a,.bool b,.bool c,.string d])).run Tryz.prog w = .ok (.bool false) w:=by
 rw [run_neq_struct]
 simp [go_sem,Result.andThen]
theorem fE {α : Type} {k : Nat} {At : World -> (Nat -> Prop) -> α -> List Value -> Prop} {w : World} {S : Nat -> Prop} {q : Rw} {ds : List α} (h : RowOf k At w S q ds) : RowOf k At w S ⟨q.A,ds.length,q.c⟩ ds:=by rw [<- h.1]; exact h
theorem same_msg (M : Ms) (m1 m2 : MC) (S1 S2 : Nat -> Prop) (w : World) (h1 : MsAt w S1 M m1) (h2 : MsAt w S2 M m2) : Calls Tryz.prog 12 #[.agg m1.cells,.agg m2.cells] w (aq true w):=by
 obtain ⟨f,at1,li1,mo1,de1,co1,hm1,-,hf1,ha1,hl1,ho1,hd1,hc1⟩:=h1
 obtain ⟨g,at2,li2,mo2,de2,co2,hm2,-,hf2,ha2,hl2,ho2,hd2,hc2⟩:=h2
 obtain ⟨cs,hcs⟩ : ∃ cs,cs = m1.cells:=⟨_,rfl⟩
 obtain ⟨ds,hds⟩ : ∃ ds,ds = m2.cells:=⟨_,rfl⟩
 have c0 : cs[0]? = some (.int .i64 M.id):=by rw [hcs,hm1]; rfl
 have c1 : cs[1]? = some (.int .i64 M.op):=by rw [hcs,hm1]; rfl
 have c2 : cs[2]? = some (.int .i64 M.version):=by rw [hcs,hm1]; rfl
 have c3 : cs[3]? = some (.string M.name):=by rw [hcs,hm1]; rfl
 have c4 : cs[4]? = some (.bool M.sasl):=by rw [hcs,hm1]; rfl
 have c5 : cs[5]? = some (.string M.secret):=by rw [hcs,hm1]; rfl
 have c6 : cs[6]? = some (.string M.kind):=by rw [hcs,hm1]; rfl
 have c7 : cs[7]? = some (.bool M.has):=by rw [hcs,hm1]; rfl
 have c8 : cs[8]? = some (.string M.value):=by rw [hcs,hm1]; rfl
 have c9 : cs[9]? = some (.int .i64 M.code):=by rw [hcs,hm1]; rfl
 have c10 : cs[10]? = some (.string M.text):=by rw [hcs,hm1]; rfl
 have c11 : cs[11]? = some (.int .i64 M.scope):=by rw [hcs,hm1]; rfl
 have c12 : cs[12]? = some (.int .i64 M.deref):=by rw [hcs,hm1]; rfl
 have c13 : cs[13]? = some (.int .i64 M.size):=by rw [hcs,hm1]; rfl
 have c14 : cs[14]? = some (.int .i64 M.time):=by rw [hcs,hm1]; rfl
 have c15 : cs[15]? = some (.bool M.types):=by rw [hcs,hm1]; rfl
 have c16 : cs[16]? = some (.int .i64 f.kind):=by rw [hcs,hm1]; rfl
 have c17 : cs[17]? = some (.string f.attr):=by rw [hcs,hm1]; rfl
 have c18 : cs[18]? = some (.string f.value):=by rw [hcs,hm1]; rfl
 have c19 : cs[19]? = some (.string f.first):=by rw [hcs,hm1]; rfl
 have c20 : cs[20]? = some (.slice f.any.A f.any.n f.any.c):=by rw [hcs,hm1]; rfl
 have c21 : cs[21]? = some (.string f.last):=by rw [hcs,hm1]; rfl
 have c22 : cs[22]? = some (.slice f.kids.A f.kids.n f.kids.c):=by rw [hcs,hm1]; rfl
 have c23 : cs[23]? = some (.slice at1.A at1.n at1.c):=by rw [hcs,hm1]; rfl
 have c24 : cs[24]? = some (.slice li1.A M.list.length li1.c):=by rw [hcs,hm1,<- hl1.1]; rfl
 have c25 : cs[25]? = some (.slice mo1.A M.mods.length mo1.c):=by rw [hcs,hm1,<- ho1.1]; rfl
 have c26 : cs[26]? = some (.string M.rdn):=by rw [hcs,hm1]; rfl
 have c27 : cs[27]? = some (.bool M.old):=by rw [hcs,hm1]; rfl
 have c28 : cs[28]? = some (.slice de1.A de1.n de1.c):=by rw [hcs,hm1]; rfl
 have c29 : cs[29]? = some (.int .i64 M.other):=by rw [hcs,hm1]; rfl
 have c30 : cs[30]? = some (.slice co1.A M.controls.length co1.c):=by rw [hcs,hm1,<- hc1.1]; rfl
 have d0 : ds[0]? = some (.int .i64 M.id):=by rw [hds,hm2]; rfl
 have d1 : ds[1]? = some (.int .i64 M.op):=by rw [hds,hm2]; rfl
 have d2 : ds[2]? = some (.int .i64 M.version):=by rw [hds,hm2]; rfl
 have d3 : ds[3]? = some (.string M.name):=by rw [hds,hm2]; rfl
 have d4 : ds[4]? = some (.bool M.sasl):=by rw [hds,hm2]; rfl
 have d5 : ds[5]? = some (.string M.secret):=by rw [hds,hm2]; rfl
 have d6 : ds[6]? = some (.string M.kind):=by rw [hds,hm2]; rfl
 have d7 : ds[7]? = some (.bool M.has):=by rw [hds,hm2]; rfl
 have d8 : ds[8]? = some (.string M.value):=by rw [hds,hm2]; rfl
 have d9 : ds[9]? = some (.int .i64 M.code):=by rw [hds,hm2]; rfl
 have d10 : ds[10]? = some (.string M.text):=by rw [hds,hm2]; rfl
 have d11 : ds[11]? = some (.int .i64 M.scope):=by rw [hds,hm2]; rfl
 have d12 : ds[12]? = some (.int .i64 M.deref):=by rw [hds,hm2]; rfl
 have d13 : ds[13]? = some (.int .i64 M.size):=by rw [hds,hm2]; rfl
 have d14 : ds[14]? = some (.int .i64 M.time):=by rw [hds,hm2]; rfl
 have d15 : ds[15]? = some (.bool M.types):=by rw [hds,hm2]; rfl
 have d16 : ds[16]? = some (.int .i64 g.kind):=by rw [hds,hm2]; rfl
 have d17 : ds[17]? = some (.string g.attr):=by rw [hds,hm2]; rfl
 have d18 : ds[18]? = some (.string g.value):=by rw [hds,hm2]; rfl
 have d19 : ds[19]? = some (.string g.first):=by rw [hds,hm2]; rfl
 have d20 : ds[20]? = some (.slice g.any.A g.any.n g.any.c):=by rw [hds,hm2]; rfl
 have d21 : ds[21]? = some (.string g.last):=by rw [hds,hm2]; rfl
 have d22 : ds[22]? = some (.slice g.kids.A g.kids.n g.kids.c):=by rw [hds,hm2]; rfl
 have d23 : ds[23]? = some (.slice at2.A at2.n at2.c):=by rw [hds,hm2]; rfl
 have d24 : ds[24]? = some (.slice li2.A M.list.length li2.c):=by rw [hds,hm2,<- hl2.1]; rfl
 have d25 : ds[25]? = some (.slice mo2.A M.mods.length mo2.c):=by rw [hds,hm2,<- ho2.1]; rfl
 have d26 : ds[26]? = some (.string M.rdn):=by rw [hds,hm2]; rfl
 have d27 : ds[27]? = some (.bool M.old):=by rw [hds,hm2]; rfl
 have d28 : ds[28]? = some (.slice de2.A de2.n de2.c):=by rw [hds,hm2]; rfl
 have d29 : ds[29]? = some (.int .i64 M.other):=by rw [hds,hm2]; rfl
 have d30 : ds[30]? = some (.slice co2.A M.controls.length co2.c):=by rw [hds,hm2,<- hc2.1]; rfl
 rw [<- hcs,<- hds]
 obtain ⟨wa,hwa⟩ : ∃ W,W = w.alloc (.cells cs 30):=⟨_,rfl⟩
 have hsa : wa.heap.size = w.heap.size + 1:=by rw [hwa]; simp
 have hba : Below w.heap.size w wa:=by rw [hwa]; exact (Below.refl w.heap.size w).alloc (Nat.le_refl _) _
 have hka : Bk wa w.heap.size 30 cs:=by rw [hwa]; exact Bk.new w _ _
 obtain ⟨w1,hw1⟩ : ∃ W,W = wa.alloc (.cells ds 30):=⟨_,rfl⟩
 have hb1 : Below w.heap.size w w1:=by rw [hw1]; exact hba.alloc hba.size _
 have hk1 : Bk w1 w.heap.size 30 cs:=by rw [hw1]; exact hka.alloc _
 have hg1 : Bk w1 (w.heap.size + 1) 30 ds:=by rw [hw1,<- hsa]; exact Bk.new wa _ _
 have HB:=aa hb1
 have HK1:=aa hk1
 have HG1:=aa hg1
 have HW1:=aa (show w1 = (w.alloc (.cells cs 30)).alloc (.cells ds 30) by rw [hw1,hwa])
 have C24:=aa c24
 have D24:=aa d24
 have C25:=aa c25
 have D25:=aa d25
 have C30:=aa c30
 have D30:=aa d30
 have C23:=aa c23
 have D23:=aa d23
 have C28:=aa c28
 have D28:=aa d28
 have t0 : (M.id != M.id) = false:=by simp
 have t1 : (M.op != M.op) = false:=by simp
 have t2 : (M.version != M.version) = false:=by simp
 have t3 : (M.sasl != M.sasl) = false:=by simp
 have t4 : (M.has != M.has) = false:=by simp
 have t5 : (M.code != M.code) = false:=by simp
 have t6 : (M.scope != M.scope) = false:=by simp
 have t7 : (M.deref != M.deref) = false:=by simp
 have t8 : (M.size != M.size) = false:=by simp
 have t9 : (M.time != M.time) = false:=by simp
 have t10 : (M.types != M.types) = false:=by simp
 have t11 : (M.old != M.old) = false:=by simp
 have t12 : (M.other != M.other) = false:=by simp
 have lim1 : li1.c <= 9223372036854775807:=by have:=hl1.2.2.1; unfold maxLen at this; omega
 have lin1 : li1.n <= li1.c:=hl1.2.1
 rw [hl1.1] at lin1
 have lim2 : li2.c <= 9223372036854775807:=by have:=hl2.2.2.1; unfold maxLen at this; omega
 have lin2 : li2.n <= li2.c:=hl2.2.1
 rw [hl2.1] at lin2
 have mom1 : mo1.c <= 9223372036854775807:=by have:=ho1.2.2.1; unfold maxLen at this; omega
 have mon1 : mo1.n <= mo1.c:=ho1.2.1
 rw [ho1.1] at mon1
 have mom2 : mo2.c <= 9223372036854775807:=by have:=ho2.2.2.1; unfold maxLen at this; omega
 have mon2 : mo2.n <= mo2.c:=ho2.2.1
 rw [ho2.1] at mon2
 have com1 : co1.c <= 9223372036854775807:=by have:=hc1.2.2.1; unfold maxLen at this; omega
 have con1 : co1.n <= co1.c:=hc1.2.1
 rw [hc1.1] at con1
 have com2 : co2.c <= 9223372036854775807:=by have:=hc2.2.2.1; unfold maxLen at this; omega
 have con2 : co2.n <= co2.c:=hc2.2.1
 rw [hc2.1] at con2
 have HL1:=aa hl1
 have HL2:=aa hl2
 have HO1:=aa ho1
 have HO2:=aa ho2
 have HC1:=aa hc1
 have HC2:=aa hc2
 have hk:=fun (W : World) (hb : Below w.heap.size w W) => (fun (x : Nat) (_ : True) (hlt : x < w.heap.size) => hb.block x hlt)
 have HF:=aa fun (W : World) (hb : Below w.heap.size w W) => eI M.filter f.cells g.cells S1 S2 W (FlAt.keep (T:=S1) hb.size (fun x _ hlt => hb.block x hlt) (fun _ h _ => h) _ _ hf1) (FlAt.keep (T:=S2) hb.size (fun x _ hlt => hb.block x hlt) (fun _ h _ => h) _ _ hf2)
 have HA:=aa fun (W : World) (hb : Below w.heap.size w W) => db at1 at2 M.attrs S1 S2 W (RowOf.keep al ha1 (T:=S1) hb.size (fun x _ hlt => hb.block x hlt) (fun _ h _ => h)) (RowOf.keep al ha2 (T:=S2) hb.size (fun x _ hlt => hb.block x hlt) (fun _ h _ => h))
 have HD:=aa fun (W : World) (hb : Below w.heap.size w W) => db de1 de2 M.dest S1 S2 W (RowOf.keep al hd1 (T:=S1) hb.size (fun x _ hlt => hb.block x hlt) (fun _ h _ => h)) (RowOf.keep al hd2 (T:=S2) hb.size (fun x _ hlt => hb.block x hlt) (fun _ h _ => h))
 clear hcs hds hm1 hm2 hwa hsa hba hka hw1 hb1 hk1 hg1 hf1 hf2 ha1 ha2 hl1 hl2 ho1 ho2 hd1 hd2 hc1 hc2 hk
 go_enter Tryz.func12,Tryz.ntmps12
 go_wp2_with (first
  | (go_at_call 46; rw [<- HW1.out]; refine (HF.out _ HB.out).mono ?_; rintro e w2 ⟨rfl,hb2⟩; have HB2:=aa (HB.out.trans (hb2.mono HB.out.size)); have HK2:=aa (af HK1.out hb2); have HG2:=aa (af HG1.out hb2); have e2_23:=((HK2.out.cell 23).trans C23.out); have k2_23:=((HG2.out.cell 23).trans D23.out); have e2_28:=((HK2.out.cell 28).trans C28.out); have k2_28:=((HG2.out.cell 28).trans D28.out); have e2_24:=((HK2.out.cell 24).trans C24.out); have k2_24:=((HG2.out.cell 24).trans D24.out); have e2_25:=((HK2.out.cell 25).trans C25.out); have k2_25:=((HG2.out.cell 25).trans D25.out); have e2_30:=((HK2.out.cell 30).trans C30.out); have k2_30:=((HG2.out.cell 30).trans D30.out); have l2:=HK2.out.lt; have l2':=HG2.out.lt; clear hb2)
  | (go_at_call 47; (with_reducible refine (HA.out _ HB2.out).mono ?_); rintro e w3 ⟨rfl,hb3⟩; have HB3:=aa (HB2.out.trans (hb3.mono HB2.out.size)); have HK3:=aa (af HK2.out hb3); have HG3:=aa (af HG2.out hb3); have e3_28:=((HK3.out.cell 28).trans C28.out); have k3_28:=((HG3.out.cell 28).trans D28.out); have e3_24:=((HK3.out.cell 24).trans C24.out); have k3_24:=((HG3.out.cell 24).trans D24.out); have e3_25:=((HK3.out.cell 25).trans C25.out); have k3_25:=((HG3.out.cell 25).trans D25.out); have e3_30:=((HK3.out.cell 30).trans C30.out); have k3_30:=((HG3.out.cell 30).trans D30.out); have l3:=HK3.out.lt; have l3':=HG3.out.lt; clear hb3)
  | (go_at_call 47; (with_reducible refine (HD.out _ HB3.out).mono ?_); rintro e w4 ⟨rfl,hb4⟩; have HB4:=aa (HB3.out.trans (hb4.mono HB3.out.size)); have HK4:=aa (af HK3.out hb4); have HG4:=aa (af HG3.out hb4); have e4_24:=((HK4.out.cell 24).trans C24.out); have k4_24:=((HG4.out.cell 24).trans D24.out); have e4_25:=((HK4.out.cell 25).trans C25.out); have k4_25:=((HG4.out.cell 25).trans D25.out); have e4_30:=((HK4.out.cell 30).trans C30.out); have k4_30:=((HG4.out.cell 30).trans D30.out); have l4:=HK4.out.lt; have l4':=HG4.out.lt; clear hb4)
  | fail)
 clear c0 d0 c1 d1 c2 d2 c3 d3 c4 d4 c5 d5 c6 d6 c7 d7 c8 d8 c9 d9 c10 d10 c11 d11 c12 d12 c13 d13 c14 d14 c15 d15 c16 d16 c17 d17 c18 d18 c19 d19 c20 d20 c21 d21 c22 d22 c23 d23 c24 d24 c25 d25 c26 d26 c27 d27 c28 d28 c29 d29 c30 d30 e2_23 k2_23 e2_28 k2_28 e2_24 k2_24 e2_25 k2_25 e2_30 k2_30 e3_28 k3_28 e3_24 k3_24 e3_25 k3_25 e3_30 k3_30 e4_24 k4_24 e4_25 k4_25 e4_30 k4_30 l2 l2' l3 l3' l4 l4' HF HA HD HB2 HK2 HG2 HB3 HK3 HG3 HB HK1 HG1 HW1 t0 t1 t2 t3 t4 t5 t6 t7 t8 t9 t10 t11
 go_loopw [5] (fun i wr => ∃ (j : Nat),i = .int .i64 j /\ j <= M.list.length /\ Below w.heap.size w wr /\ Bk wr w.heap.size 30 cs /\ Bk wr (w.heap.size + 1) 30 ds) (fun i _ => M.list.length - (intOf i).toNat)
 case atStart => exact ⟨0,rfl,Nat.zero_le _,HB4.out,HK4.out,HG4.out⟩
 case round =>
  obtain ⟨j,rfl,hj,hbw,hbk,hbg⟩:=hrel
  have HBW:=aa hbw
  have HBK:=aa hbk
  have HBG:=aa hbg
  have p24:=(hbk.cell 24).trans C24.out
  have p24':=(hbg.cell 24).trans D24.out
  have p25:=(hbk.cell 25).trans C25.out
  have p25':=(hbg.cell 25).trans D25.out
  have p30:=(hbk.cell 30).trans C30.out
  have p30':=(hbg.cell 30).trans D30.out
  have l1:=hbk.lt
  have l2:=hbg.lt
  by_cases hlt : j < M.list.length
  ·have z1 : decide ((j : Int) < (M.list.length : Int)) = true:=ab (by omega)
   obtain ⟨b,o,c,hA0,hS,hcl,hc,hat⟩:=(fE HL1.out).2.2.2 j M.list[j] (List.getElem?_eq_getElem hlt)
   obtain ⟨b',o',c',hA0',hS',hcl',hc',hat'⟩:=(fE HL2.out).2.2.2 j M.list[j] (List.getElem?_eq_getElem hlt)
   have hA : li1.A = some ⟨b,o,none⟩:=hA0
   have hA' : li2.A = some ⟨b',o',none⟩:=hA0'
   rw [hA] at p24
   rw [hA'] at p24'
   obtain ⟨s,hs⟩ : ∃ s,s = M.list[j]:=⟨_,rfl⟩
   rw [<- hs] at hat hat'
   have hcw : ∀ x,wr.cell? ⟨b,x,none⟩ = w.cell? ⟨b,x,none⟩:=fun x => hbw.cell (p:=⟨b,x,none⟩) hS.2
   have hcw' : ∀ x,wr.cell? ⟨b',x,none⟩ = w.cell? ⟨b',x,none⟩:=fun x => hbw.cell (p:=⟨b',x,none⟩) hS'.2
   have hbr : b < wr.heap.size:=Nat.lt_of_lt_of_le hS.2 hbw.size
   have hbr' : b' < wr.heap.size:=Nat.lt_of_lt_of_le hS'.2 hbw.size
   obtain ⟨q,rfl,hz,hss⟩:=hat
   obtain ⟨q',rfl,hz',hss'⟩:=hat'
   have q0 : wr.cell? ⟨b,o + j * 2,none⟩ = some (.string s.1):=(hcw _).trans (hc 0 _ rfl)
   have q1 : wr.cell? ⟨b,o + j * 2 + 1,none⟩ = some (.slice q.A q.n q.c):=(hcw _).trans (hc 1 _ rfl)
   have r0 : wr.cell? ⟨b',o' + j * 2,none⟩ = some (.string s.1):=(hcw' _).trans (hc' 0 _ rfl)
   have r1 : wr.cell? ⟨b',o' + j * 2 + 1,none⟩ = some (.slice q'.A q'.n q'.c):=(hcw' _).trans (hc' 1 _ rfl)
   have L1:=aa l1
   have L2:=aa l2
   have HKS:=aa fun (W : World) (hb : Below wr.heap.size wr W) => (show W.cell? ⟨w.heap.size,24,none⟩ = some (.slice (some ⟨b,o,none⟩) M.list.length li1.c) /\ W.cell? ⟨w.heap.size + 1,24,none⟩ = some (.slice (some ⟨b',o',none⟩) M.list.length li2.c) /\ W.cell? ⟨b,o + j * 2,none⟩ = some (.string s.1) /\ W.cell? ⟨b,o + j * 2 + 1,none⟩ = some (.slice q.A q.n q.c) /\ W.cell? ⟨b',o' + j * 2,none⟩ = some (.string s.1) /\ W.cell? ⟨b',o' + j * 2 + 1,none⟩ = some (.slice q'.A q'.n q'.c) /\ Below wr.heap.size wr W from ⟨(hb.cell (p:=⟨w.heap.size,24,none⟩) L1.out).trans p24,(hb.cell (p:=⟨w.heap.size + 1,24,none⟩) L2.out).trans p24',(hb.cell (p:=⟨b,o + j * 2,none⟩) hbr).trans q0,(hb.cell (p:=⟨b,o + j * 2 + 1,none⟩) hbr).trans q1,(hb.cell (p:=⟨b',o' + j * 2,none⟩) hbr').trans r0,(hb.cell (p:=⟨b',o' + j * 2 + 1,none⟩) hbr').trans r1,hb⟩)
   have HBR:=aa (Below.refl wr.heap.size wr).drew
   have HV:=aa fun (W : World) (hb : Below wr.heap.size wr W) => db q q' s.2 S1 S2 W (RowOf.keep al hss (T:=S1) (hbw.trans (hb.mono hbw.size)).size (fun x _ hlt => (hbw.trans (hb.mono hbw.size)).block x hlt) (fun _ h _ => h)) (RowOf.keep al hss' (T:=S2) (hbw.trans (hb.mono hbw.size)).size (fun x _ hlt => (hbw.trans (hb.mono hbw.size)).block x hlt) (fun _ h _ => h))
   clear hA hA' hA0 hA0' hS hS' hcl hcl' hc hc' hs hcw hcw' hbw hbk hbg hss hss'
   go_wp2_with fail
   go_region_held3 (fun W => W.cell? ⟨w.heap.size,24,none⟩ = some (.slice (some ⟨b,o,none⟩) M.list.length li1.c) /\ W.cell? ⟨w.heap.size + 1,24,none⟩ = some (.slice (some ⟨b',o',none⟩) M.list.length li2.c) /\ W.cell? ⟨b,o + j * 2,none⟩ = some (.string s.1) /\ W.cell? ⟨b,o + j * 2 + 1,none⟩ = some (.slice q.A q.n q.c) /\ W.cell? ⟨b',o' + j * 2,none⟩ = some (.string s.1) /\ W.cell? ⟨b',o' + j * 2 + 1,none⟩ = some (.slice q'.A q'.n q'.c) /\ Below wr.heap.size wr W) (first | (with_reducible exact HKS.out _ HBR.out) | (with_reducible exact HKS.out _ (by assumption))) (first | (go_at_call 47; refine (HV.out _ HBR.out).mono ?_; rintro e w2 ⟨rfl,hb2⟩; have hn2:=ag HBR.out hb2) | fail)
   all_goals
    have hbw2:=HBW.out.trans (hn2.mono HBW.out.size)
    have hbk2:=af HBK.out hn2
    have hbg2:=af HBG.out hn2
    go_wp2_with fail
    go_roundw
    case rel => first | exact ⟨j + 1,by go_num,by omega,hbw2,hbk2,hbg2⟩ | ((repeat apply Exists.intro); refine ⟨?_,rfl⟩; exact ⟨j + 1,by go_num,by omega,hbw2,hbk2,hbg2⟩)
    case measure => simp [intOf]; omega
  ·have z1 : decide ((j : Int) < (M.list.length : Int)) = false:=ae (by omega)
   clear hbw hbk hbg
   go_wp2_with fail
   have HB5:=HBW
   have HK5:=HBK
   have HG5:=HBG
   clear HBW HBK HBG hlt hj z1
   go_loopw [6] (fun i wr => ∃ (j : Nat),i = .int .i64 j /\ j <= M.mods.length /\ Below w.heap.size w wr /\ Bk wr w.heap.size 30 cs /\ Bk wr (w.heap.size + 1) 30 ds) (fun i _ => M.mods.length - (intOf i).toNat)
   case atStart => exact ⟨0,rfl,Nat.zero_le _,HB5.out,HK5.out,HG5.out⟩
   case round =>
    obtain ⟨j,rfl,hj,hbw,hbk,hbg⟩:=hrel
    have HBW:=aa hbw
    have HBK:=aa hbk
    have HBG:=aa hbg
    have p24:=(hbk.cell 24).trans C24.out
    have p24':=(hbg.cell 24).trans D24.out
    have p25:=(hbk.cell 25).trans C25.out
    have p25':=(hbg.cell 25).trans D25.out
    have p30:=(hbk.cell 30).trans C30.out
    have p30':=(hbg.cell 30).trans D30.out
    have l1:=hbk.lt
    have l2:=hbg.lt
    by_cases hlt : j < M.mods.length
    ·have z1 : decide ((j : Int) < (M.mods.length : Int)) = true:=ab (by omega)
     obtain ⟨b,o,c,hA0,hS,hcl,hc,hat⟩:=(fE HO1.out).2.2.2 j M.mods[j] (List.getElem?_eq_getElem hlt)
     obtain ⟨b',o',c',hA0',hS',hcl',hc',hat'⟩:=(fE HO2.out).2.2.2 j M.mods[j] (List.getElem?_eq_getElem hlt)
     have hA : mo1.A = some ⟨b,o,none⟩:=hA0
     have hA' : mo2.A = some ⟨b',o',none⟩:=hA0'
     rw [hA] at p25
     rw [hA'] at p25'
     obtain ⟨s,hs⟩ : ∃ s,s = M.mods[j]:=⟨_,rfl⟩
     rw [<- hs] at hat hat'
     have hcw : ∀ x,wr.cell? ⟨b,x,none⟩ = w.cell? ⟨b,x,none⟩:=fun x => hbw.cell (p:=⟨b,x,none⟩) hS.2
     have hcw' : ∀ x,wr.cell? ⟨b',x,none⟩ = w.cell? ⟨b',x,none⟩:=fun x => hbw.cell (p:=⟨b',x,none⟩) hS'.2
     have hbr : b < wr.heap.size:=Nat.lt_of_lt_of_le hS.2 hbw.size
     have hbr' : b' < wr.heap.size:=Nat.lt_of_lt_of_le hS'.2 hbw.size
     obtain ⟨q,rfl,hz,hss⟩:=hat
     obtain ⟨q',rfl,hz',hss'⟩:=hat'
     have tt : (s.1 != s.1) = false:=by simp
     have q0 : wr.cell? ⟨b,o + j * 3,none⟩ = some (.int .i64 s.1):=(hcw _).trans (hc 0 _ rfl)
     have q1 : wr.cell? ⟨b,o + j * 3 + 1,none⟩ = some (.string s.2.1):=(hcw _).trans (hc 1 _ rfl)
     have q2 : wr.cell? ⟨b,o + j * 3 + 2,none⟩ = some (.slice q.A q.n q.c):=(hcw _).trans (hc 2 _ rfl)
     have r0 : wr.cell? ⟨b',o' + j * 3,none⟩ = some (.int .i64 s.1):=(hcw' _).trans (hc' 0 _ rfl)
     have r1 : wr.cell? ⟨b',o' + j * 3 + 1,none⟩ = some (.string s.2.1):=(hcw' _).trans (hc' 1 _ rfl)
     have r2 : wr.cell? ⟨b',o' + j * 3 + 2,none⟩ = some (.slice q'.A q'.n q'.c):=(hcw' _).trans (hc' 2 _ rfl)
     have L1:=aa l1
     have L2:=aa l2
     have HKS:=aa fun (W : World) (hb : Below wr.heap.size wr W) => (show W.cell? ⟨w.heap.size,25,none⟩ = some (.slice (some ⟨b,o,none⟩) M.mods.length mo1.c) /\ W.cell? ⟨w.heap.size + 1,25,none⟩ = some (.slice (some ⟨b',o',none⟩) M.mods.length mo2.c) /\ W.cell? ⟨b,o + j * 3,none⟩ = some (.int .i64 s.1) /\ W.cell? ⟨b,o + j * 3 + 1,none⟩ = some (.string s.2.1) /\ W.cell? ⟨b,o + j * 3 + 2,none⟩ = some (.slice q.A q.n q.c) /\ W.cell? ⟨b',o' + j * 3,none⟩ = some (.int .i64 s.1) /\ W.cell? ⟨b',o' + j * 3 + 1,none⟩ = some (.string s.2.1) /\ W.cell? ⟨b',o' + j * 3 + 2,none⟩ = some (.slice q'.A q'.n q'.c) /\ Below wr.heap.size wr W from ⟨(hb.cell (p:=⟨w.heap.size,25,none⟩) L1.out).trans p25,(hb.cell (p:=⟨w.heap.size + 1,25,none⟩) L2.out).trans p25',(hb.cell (p:=⟨b,o + j * 3,none⟩) hbr).trans q0,(hb.cell (p:=⟨b,o + j * 3 + 1,none⟩) hbr).trans q1,(hb.cell (p:=⟨b,o + j * 3 + 2,none⟩) hbr).trans q2,(hb.cell (p:=⟨b',o' + j * 3,none⟩) hbr').trans r0,(hb.cell (p:=⟨b',o' + j * 3 + 1,none⟩) hbr').trans r1,(hb.cell (p:=⟨b',o' + j * 3 + 2,none⟩) hbr').trans r2,hb⟩)
     have HBR:=aa (Below.refl wr.heap.size wr).drew
     have HV:=aa fun (W : World) (hb : Below wr.heap.size wr W) => db q q' s.2.2 S1 S2 W (RowOf.keep al hss (T:=S1) (hbw.trans (hb.mono hbw.size)).size (fun x _ hlt => (hbw.trans (hb.mono hbw.size)).block x hlt) (fun _ h _ => h)) (RowOf.keep al hss' (T:=S2) (hbw.trans (hb.mono hbw.size)).size (fun x _ hlt => (hbw.trans (hb.mono hbw.size)).block x hlt) (fun _ h _ => h))
     clear hA hA' hA0 hA0' hS hS' hcl hcl' hc hc' hs hcw hcw' hbw hbk hbg hss hss'
     go_wp2_with fail
     go_region_held3 (fun W => W.cell? ⟨w.heap.size,25,none⟩ = some (.slice (some ⟨b,o,none⟩) M.mods.length mo1.c) /\ W.cell? ⟨w.heap.size + 1,25,none⟩ = some (.slice (some ⟨b',o',none⟩) M.mods.length mo2.c) /\ W.cell? ⟨b,o + j * 3,none⟩ = some (.int .i64 s.1) /\ W.cell? ⟨b,o + j * 3 + 1,none⟩ = some (.string s.2.1) /\ W.cell? ⟨b,o + j * 3 + 2,none⟩ = some (.slice q.A q.n q.c) /\ W.cell? ⟨b',o' + j * 3,none⟩ = some (.int .i64 s.1) /\ W.cell? ⟨b',o' + j * 3 + 1,none⟩ = some (.string s.2.1) /\ W.cell? ⟨b',o' + j * 3 + 2,none⟩ = some (.slice q'.A q'.n q'.c) /\ Below wr.heap.size wr W) (first | (with_reducible exact HKS.out _ HBR.out) | (with_reducible exact HKS.out _ (by assumption))) (first | (go_at_call 47; refine (HV.out _ HBR.out).mono ?_; rintro e w2 ⟨rfl,hb2⟩; have hn2:=ag HBR.out hb2) | fail)
     all_goals
      have hbw2:=HBW.out.trans (hn2.mono HBW.out.size)
      have hbk2:=af HBK.out hn2
      have hbg2:=af HBG.out hn2
      go_wp2_with fail
      go_roundw
      case rel => first | exact ⟨j + 1,by go_num,by omega,hbw2,hbk2,hbg2⟩ | ((repeat apply Exists.intro); refine ⟨?_,rfl⟩; exact ⟨j + 1,by go_num,by omega,hbw2,hbk2,hbg2⟩)
      case measure => simp [intOf]; omega
    ·have z1 : decide ((j : Int) < (M.mods.length : Int)) = false:=ae (by omega)
     clear hbw hbk hbg
     go_wp2_with fail
     have HB6:=HBW
     have HK6:=HBK
     have HG6:=HBG
     clear HBW HBK HBG hlt hj z1
     go_loopw [7] (fun i wr => ∃ (j : Nat),i = .int .i64 j /\ j <= M.controls.length /\ Below w.heap.size w wr /\ Bk wr w.heap.size 30 cs /\ Bk wr (w.heap.size + 1) 30 ds) (fun i _ => M.controls.length - (intOf i).toNat)
     case atStart => exact ⟨0,rfl,Nat.zero_le _,HB6.out,HK6.out,HG6.out⟩
     case round =>
      obtain ⟨j,rfl,hj,hbw,hbk,hbg⟩:=hrel
      have HBW:=aa hbw
      have HBK:=aa hbk
      have HBG:=aa hbg
      have p24:=(hbk.cell 24).trans C24.out
      have p24':=(hbg.cell 24).trans D24.out
      have p25:=(hbk.cell 25).trans C25.out
      have p25':=(hbg.cell 25).trans D25.out
      have p30:=(hbk.cell 30).trans C30.out
      have p30':=(hbg.cell 30).trans D30.out
      have l1:=hbk.lt
      have l2:=hbg.lt
      by_cases hlt : j < M.controls.length
      ·have z1 : decide ((j : Int) < (M.controls.length : Int)) = true:=ab (by omega)
       obtain ⟨b,o,c,hA0,hS,hcl,hc,hat⟩:=(fE HC1.out).2.2.2 j M.controls[j] (List.getElem?_eq_getElem hlt)
       obtain ⟨b',o',c',hA0',hS',hcl',hc',hat'⟩:=(fE HC2.out).2.2.2 j M.controls[j] (List.getElem?_eq_getElem hlt)
       have hA : co1.A = some ⟨b,o,none⟩:=hA0
       have hA' : co2.A = some ⟨b',o',none⟩:=hA0'
       rw [hA] at p30
       rw [hA'] at p30'
       obtain ⟨s,hs⟩ : ∃ s,s = M.controls[j]:=⟨_,rfl⟩
       rw [<- hs] at hat hat'
       have hcw : ∀ x,wr.cell? ⟨b,x,none⟩ = w.cell? ⟨b,x,none⟩:=fun x => hbw.cell (p:=⟨b,x,none⟩) hS.2
       have hcw' : ∀ x,wr.cell? ⟨b',x,none⟩ = w.cell? ⟨b',x,none⟩:=fun x => hbw.cell (p:=⟨b',x,none⟩) hS'.2
       have hbr : b < wr.heap.size:=Nat.lt_of_lt_of_le hS.2 hbw.size
       have hbr' : b' < wr.heap.size:=Nat.lt_of_lt_of_le hS'.2 hbw.size
       obtain ⟨rfl,hz⟩:=hat
       obtain ⟨rfl,hz'⟩:=hat'
       have q0 : wr.cell? ⟨b,o + j * 4,none⟩ = some (.string s.1):=(hcw _).trans (hc 0 _ rfl)
       have q1 : wr.cell? ⟨b,o + j * 4 + 1,none⟩ = some (.bool s.2.1):=(hcw _).trans (hc 1 _ rfl)
       have q2 : wr.cell? ⟨b,o + j * 4 + 2,none⟩ = some (.bool s.2.2.1):=(hcw _).trans (hc 2 _ rfl)
       have q3 : wr.cell? ⟨b,o + j * 4 + 3,none⟩ = some (.string s.2.2.2):=(hcw _).trans (hc 3 _ rfl)
       have r0 : wr.cell? ⟨b',o' + j * 4,none⟩ = some (.string s.1):=(hcw' _).trans (hc' 0 _ rfl)
       have r1 : wr.cell? ⟨b',o' + j * 4 + 1,none⟩ = some (.bool s.2.1):=(hcw' _).trans (hc' 1 _ rfl)
       have r2 : wr.cell? ⟨b',o' + j * 4 + 2,none⟩ = some (.bool s.2.2.1):=(hcw' _).trans (hc' 2 _ rfl)
       have r3 : wr.cell? ⟨b',o' + j * 4 + 3,none⟩ = some (.string s.2.2.2):=(hcw' _).trans (hc' 3 _ rfl)
       have L1:=aa l1
       have L2:=aa l2
       have HKS:=aa fun (W : World) (hb : Below wr.heap.size wr W) => (show W.cell? ⟨w.heap.size,30,none⟩ = some (.slice (some ⟨b,o,none⟩) M.controls.length co1.c) /\ W.cell? ⟨w.heap.size + 1,30,none⟩ = some (.slice (some ⟨b',o',none⟩) M.controls.length co2.c) /\ W.cell? ⟨b,o + j * 4,none⟩ = some (.string s.1) /\ W.cell? ⟨b,o + j * 4 + 1,none⟩ = some (.bool s.2.1) /\ W.cell? ⟨b,o + j * 4 + 2,none⟩ = some (.bool s.2.2.1) /\ W.cell? ⟨b,o + j * 4 + 3,none⟩ = some (.string s.2.2.2) /\ W.cell? ⟨b',o' + j * 4,none⟩ = some (.string s.1) /\ W.cell? ⟨b',o' + j * 4 + 1,none⟩ = some (.bool s.2.1) /\ W.cell? ⟨b',o' + j * 4 + 2,none⟩ = some (.bool s.2.2.1) /\ W.cell? ⟨b',o' + j * 4 + 3,none⟩ = some (.string s.2.2.2) /\ Below wr.heap.size wr W from ⟨(hb.cell (p:=⟨w.heap.size,30,none⟩) L1.out).trans p30,(hb.cell (p:=⟨w.heap.size + 1,30,none⟩) L2.out).trans p30',(hb.cell (p:=⟨b,o + j * 4,none⟩) hbr).trans q0,(hb.cell (p:=⟨b,o + j * 4 + 1,none⟩) hbr).trans q1,(hb.cell (p:=⟨b,o + j * 4 + 2,none⟩) hbr).trans q2,(hb.cell (p:=⟨b,o + j * 4 + 3,none⟩) hbr).trans q3,(hb.cell (p:=⟨b',o' + j * 4,none⟩) hbr').trans r0,(hb.cell (p:=⟨b',o' + j * 4 + 1,none⟩) hbr').trans r1,(hb.cell (p:=⟨b',o' + j * 4 + 2,none⟩) hbr').trans r2,(hb.cell (p:=⟨b',o' + j * 4 + 3,none⟩) hbr').trans r3,hb⟩)
       have HBR:=aa (Below.refl wr.heap.size wr).drew
       have hneq:=fun W => neq_ctl s.1 s.2.1 s.2.2.1 s.2.2.2 W
       clear hA hA' hA0 hA0' hS hS' hcl hcl' hc hc' hs hcw hcw' hbw hbk hbg
       go_wp2_with fail
       go_region_held3 (fun W => W.cell? ⟨w.heap.size,30,none⟩ = some (.slice (some ⟨b,o,none⟩) M.controls.length co1.c) /\ W.cell? ⟨w.heap.size + 1,30,none⟩ = some (.slice (some ⟨b',o',none⟩) M.controls.length co2.c) /\ W.cell? ⟨b,o + j * 4,none⟩ = some (.string s.1) /\ W.cell? ⟨b,o + j * 4 + 1,none⟩ = some (.bool s.2.1) /\ W.cell? ⟨b,o + j * 4 + 2,none⟩ = some (.bool s.2.2.1) /\ W.cell? ⟨b,o + j * 4 + 3,none⟩ = some (.string s.2.2.2) /\ W.cell? ⟨b',o' + j * 4,none⟩ = some (.string s.1) /\ W.cell? ⟨b',o' + j * 4 + 1,none⟩ = some (.bool s.2.1) /\ W.cell? ⟨b',o' + j * 4 + 2,none⟩ = some (.bool s.2.2.1) /\ W.cell? ⟨b',o' + j * 4 + 3,none⟩ = some (.string s.2.2.2) /\ Below wr.heap.size wr W) (first | (with_reducible exact HKS.out _ HBR.out) | (with_reducible exact HKS.out _ (by assumption))) (first | fail | fail)
       all_goals
        have hbw2:=HBW.out.trans (HBR.out.mono HBW.out.size)
        have hbk2:=af HBK.out HBR.out
        have hbg2:=af HBG.out HBR.out
        go_wp2_with fail
        go_roundw
        case rel => first | exact ⟨j + 1,by go_num,by omega,hbw2,hbk2,hbg2⟩ | ((repeat apply Exists.intro); refine ⟨?_,rfl⟩; exact ⟨j + 1,by go_num,by omega,hbw2,hbk2,hbg2⟩)
        case measure => simp [intOf]; omega
      ·have z1 : decide ((j : Int) < (M.controls.length : Int)) = false:=ae (by omega)
       clear hbw hbk hbg
       go_wp2_with fail
       go_ret
       exact ah rfl HBW.out
end Go.Proofs.YtbiglfpikfjbpaaGreatDoor
