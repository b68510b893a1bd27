import Derived.Test.YtbiglfpikfjbpaaGreatDoorM20
namespace Go.Proofs.YtbiglfpikfjbpaaGreatDoor
open Go.RowKit
set_option maxRecDepth 100000
set_option linter.unusedVariables false
set_option linter.unusedSimpArgs false
set_option maxHeartbeats 40000000
theorem same_ne_rest (M X : Ms) (m1 m2 : MC) (S1 S2 : Nat -> Prop) (w : World) (h1 : MsAt w S1 M m1) (h2 : MsAt w S2 X m2) (hX : (X.filter = M.filter \/ X.filter = Fl.zero) /\ (X.attrs = M.attrs \/ X.attrs = []) /\ (X.dest = M.dest \/ X.dest = [])) (e_id : X.id = M.id) (e_op : X.op = M.op) (e_version : X.version = M.version) (e_name : X.name = M.name) (e_sasl : X.sasl = M.sasl) (e_secret : X.secret = M.secret) (e_kind : X.kind = M.kind) (e_has : X.has = M.has) (e_value : X.value = M.value) (e_code : X.code = M.code) (e_text : X.text = M.text) (e_scope : X.scope = M.scope) (e_deref : X.deref = M.deref) (e_size : X.size = M.size) (e_time : X.time = M.time) (e_types : X.types = M.types) (e_rdn : X.rdn = M.rdn) (e_old : X.old = M.old) (e_other : X.other = M.other) (hne : ¬ (M.filter.lens = X.filter.lens /\ M.attrs.length = X.attrs.length /\ M.dest.length = X.dest.length /\ M.list.length = X.list.length /\ M.mods.length = X.mods.length /\ M.controls.length = X.controls.length)) :
  Calls Tryz.prog 12 #[.agg m1.cells,.agg m2.cells] w (aq false w):=by
 obtain ⟨f,at1,li1,mo1,de1,co1,hm1,-,hf1,ha1,hl1,ho1,hd1,hc1⟩:=h1
 obtain ⟨g,at2,li2,mo2,de2,co2,hm2,-,hf2,ha2,hl2,ho2,hd2,hc2⟩:=h2
 obtain ⟨cs,hcs⟩ : ∃ cs,cs = m1.cells:=⟨_,rfl⟩
 obtain ⟨ds,hds⟩ : ∃ ds,ds = m2.cells:=⟨_,rfl⟩
 have c0 : cs[0]? = some (.int .i64 M.id):=by rw [hcs,hm1]; rfl
 have d0 : ds[0]? = some (.int .i64 M.id):=by rw [<- e_id,hds,hm2]; rfl
 have c1 : cs[1]? = some (.int .i64 M.op):=by rw [hcs,hm1]; rfl
 have d1 : ds[1]? = some (.int .i64 M.op):=by rw [<- e_op,hds,hm2]; rfl
 have c2 : cs[2]? = some (.int .i64 M.version):=by rw [hcs,hm1]; rfl
 have d2 : ds[2]? = some (.int .i64 M.version):=by rw [<- e_version,hds,hm2]; rfl
 have c3 : cs[3]? = some (.string M.name):=by rw [hcs,hm1]; rfl
 have d3 : ds[3]? = some (.string M.name):=by rw [<- e_name,hds,hm2]; rfl
 have c4 : cs[4]? = some (.bool M.sasl):=by rw [hcs,hm1]; rfl
 have d4 : ds[4]? = some (.bool M.sasl):=by rw [<- e_sasl,hds,hm2]; rfl
 have c5 : cs[5]? = some (.string M.secret):=by rw [hcs,hm1]; rfl
 have d5 : ds[5]? = some (.string M.secret):=by rw [<- e_secret,hds,hm2]; rfl
 have c6 : cs[6]? = some (.string M.kind):=by rw [hcs,hm1]; rfl
 have d6 : ds[6]? = some (.string M.kind):=by rw [<- e_kind,hds,hm2]; rfl
 have c7 : cs[7]? = some (.bool M.has):=by rw [hcs,hm1]; rfl
 have d7 : ds[7]? = some (.bool M.has):=by rw [<- e_has,hds,hm2]; rfl
 have c8 : cs[8]? = some (.string M.value):=by rw [hcs,hm1]; rfl
 have d8 : ds[8]? = some (.string M.value):=by rw [<- e_value,hds,hm2]; rfl
 have c9 : cs[9]? = some (.int .i64 M.code):=by rw [hcs,hm1]; rfl
 have d9 : ds[9]? = some (.int .i64 M.code):=by rw [<- e_code,hds,hm2]; rfl
 have c10 : cs[10]? = some (.string M.text):=by rw [hcs,hm1]; rfl
 have d10 : ds[10]? = some (.string M.text):=by rw [<- e_text,hds,hm2]; rfl
 have c11 : cs[11]? = some (.int .i64 M.scope):=by rw [hcs,hm1]; rfl
 have d11 : ds[11]? = some (.int .i64 M.scope):=by rw [<- e_scope,hds,hm2]; rfl
 have c12 : cs[12]? = some (.int .i64 M.deref):=by rw [hcs,hm1]; rfl
 have d12 : ds[12]? = some (.int .i64 M.deref):=by rw [<- e_deref,hds,hm2]; rfl
 have c13 : cs[13]? = some (.int .i64 M.size):=by rw [hcs,hm1]; rfl
 have d13 : ds[13]? = some (.int .i64 M.size):=by rw [<- e_size,hds,hm2]; rfl
 have c14 : cs[14]? = some (.int .i64 M.time):=by rw [hcs,hm1]; rfl
 have d14 : ds[14]? = some (.int .i64 M.time):=by rw [<- e_time,hds,hm2]; rfl
 have c15 : cs[15]? = some (.bool M.types):=by rw [hcs,hm1]; rfl
 have d15 : ds[15]? = some (.bool M.types):=by rw [<- e_types,hds,hm2]; rfl
 have c16 : cs[16]? = some (.int .i64 f.kind):=by rw [hcs,hm1]; rfl
 have d16 : ds[16]? = some (.int .i64 g.kind):=by rw [hds,hm2]; rfl
 have c17 : cs[17]? = some (.string f.attr):=by rw [hcs,hm1]; rfl
 have d17 : ds[17]? = some (.string g.attr):=by rw [hds,hm2]; rfl
 have c18 : cs[18]? = some (.string f.value):=by rw [hcs,hm1]; rfl
 have d18 : ds[18]? = some (.string g.value):=by rw [hds,hm2]; rfl
 have c19 : cs[19]? = some (.string f.first):=by rw [hcs,hm1]; rfl
 have d19 : ds[19]? = some (.string g.first):=by rw [hds,hm2]; rfl
 have c20 : cs[20]? = some (.slice f.any.A f.any.n f.any.c):=by rw [hcs,hm1]; rfl
 have d20 : ds[20]? = some (.slice g.any.A g.any.n g.any.c):=by rw [hds,hm2]; rfl
 have c21 : cs[21]? = some (.string f.last):=by rw [hcs,hm1]; rfl
 have d21 : ds[21]? = some (.string g.last):=by rw [hds,hm2]; rfl
 have c22 : cs[22]? = some (.slice f.kids.A f.kids.n f.kids.c):=by rw [hcs,hm1]; rfl
 have d22 : ds[22]? = some (.slice g.kids.A g.kids.n g.kids.c):=by rw [hds,hm2]; rfl
 have c23 : cs[23]? = some (.slice at1.A at1.n at1.c):=by rw [hcs,hm1]; rfl
 have d23 : ds[23]? = some (.slice at2.A at2.n at2.c):=by rw [hds,hm2]; rfl
 have c24 : cs[24]? = some (.slice li1.A M.list.length li1.c):=by rw [hcs,hm1,<- hl1.1]; rfl
 have d24 : ds[24]? = some (.slice li2.A X.list.length li2.c):=by rw [hds,hm2,<- hl2.1]; rfl
 have c25 : cs[25]? = some (.slice mo1.A M.mods.length mo1.c):=by rw [hcs,hm1,<- ho1.1]; rfl
 have d25 : ds[25]? = some (.slice mo2.A X.mods.length mo2.c):=by rw [hds,hm2,<- ho2.1]; rfl
 have c26 : cs[26]? = some (.string M.rdn):=by rw [hcs,hm1]; rfl
 have d26 : ds[26]? = some (.string M.rdn):=by rw [<- e_rdn,hds,hm2]; rfl
 have c27 : cs[27]? = some (.bool M.old):=by rw [hcs,hm1]; rfl
 have d27 : ds[27]? = some (.bool M.old):=by rw [<- e_old,hds,hm2]; rfl
 have c28 : cs[28]? = some (.slice de1.A de1.n de1.c):=by rw [hcs,hm1]; rfl
 have d28 : ds[28]? = some (.slice de2.A de2.n de2.c):=by rw [hds,hm2]; rfl
 have c29 : cs[29]? = some (.int .i64 M.other):=by rw [hcs,hm1]; rfl
 have d29 : ds[29]? = some (.int .i64 M.other):=by rw [<- e_other,hds,hm2]; rfl
 have c30 : cs[30]? = some (.slice co1.A M.controls.length co1.c):=by rw [hcs,hm1,<- hc1.1]; rfl
 have d30 : ds[30]? = some (.slice co2.A X.controls.length co2.c):=by rw [hds,hm2,<- hc2.1]; rfl
 rw [<- hcs,<- hds]
 obtain ⟨wa,hwa⟩ : ∃ W,W = w.alloc (.cells cs 30):=⟨_,rfl⟩
 have hsa : wa.heap.size = w.heap.size + 1:=by rw [hwa]; simp
 have hba : Below w.heap.size w wa:=by rw [hwa]; exact (Below.refl w.heap.size w).alloc (Nat.le_refl _) _
 have hka : Bk wa w.heap.size 30 cs:=by rw [hwa]; exact Bk.new w _ _
 obtain ⟨w1,hw1⟩ : ∃ W,W = wa.alloc (.cells ds 30):=⟨_,rfl⟩
 have hb1 : Below w.heap.size w w1:=by rw [hw1]; exact hba.alloc hba.size _
 have hk1 : Bk w1 w.heap.size 30 cs:=by rw [hw1]; exact hka.alloc _
 have hg1 : Bk w1 (w.heap.size + 1) 30 ds:=by rw [hw1,<- hsa]; exact Bk.new wa _ _
 have hw1' : w1 = (w.alloc (.cells cs 30)).alloc (.cells ds 30):=by rw [hw1,hwa]
 have HB1:=aa hb1
 have HK1:=aa hk1
 have HG1:=aa hg1
 have HW1:=aa hw1'
 have HF:=aa fun (W : World) (hb : Below w.heap.size w W) => fsame_le M.filter X.filter f.cells g.cells S1 S2 W (FlAt.keep (T:=S1) hb.size (fun x _ hlt => hb.block x hlt) (fun _ h _ => h) _ _ hf1) (FlAt.keep (T:=S2) hb.size (fun x _ hlt => hb.block x hlt) (fun _ h _ => h) _ _ hf2) hX.1
 have HA:=aa fun (W : World) (hb : Below w.heap.size w W) => same01_le at1 at2 M.attrs X.attrs S1 S2 W (RowOf.keep al ha1 (T:=S1) hb.size (fun x _ hlt => hb.block x hlt) (fun _ h _ => h)) (RowOf.keep al ha2 (T:=S2) hb.size (fun x _ hlt => hb.block x hlt) (fun _ h _ => h)) hX.2.1
 have HD:=aa fun (W : World) (hb : Below w.heap.size w W) => same01_le de1 de2 M.dest X.dest S1 S2 W (RowOf.keep al hd1 (T:=S1) hb.size (fun x _ hlt => hb.block x hlt) (fun _ h _ => h)) (RowOf.keep al hd2 (T:=S2) hb.size (fun x _ hlt => hb.block x hlt) (fun _ h _ => h)) hX.2.2
 have HNE:=aa hne
 clear hcs hds hm1 hm2 hwa hsa hba hka hw1 hb1 hk1 hg1 hw1' hf1 hf2 ha1 ha2 hl1 hl2 ho1 ho2 hd1 hd2 hc1 hc2 hX hne e_id e_op e_version e_name e_sasl e_secret e_kind e_has e_value e_code e_text e_scope e_deref e_size e_time e_types e_rdn e_old e_other
 have C23:=aa c23
 have D23:=aa d23
 have C24:=aa c24
 have D24:=aa d24
 have C25:=aa c25
 have D25:=aa d25
 have C28:=aa c28
 have D28:=aa d28
 have C30:=aa c30
 have D30:=aa d30
 have p0:=(HK1.out.cell 0).trans c0
 have q0:=(HG1.out.cell 0).trans d0
 have p1:=(HK1.out.cell 1).trans c1
 have q1:=(HG1.out.cell 1).trans d1
 have p2:=(HK1.out.cell 2).trans c2
 have q2:=(HG1.out.cell 2).trans d2
 have p3:=(HK1.out.cell 3).trans c3
 have q3:=(HG1.out.cell 3).trans d3
 have p4:=(HK1.out.cell 4).trans c4
 have q4:=(HG1.out.cell 4).trans d4
 have p5:=(HK1.out.cell 5).trans c5
 have q5:=(HG1.out.cell 5).trans d5
 have p6:=(HK1.out.cell 6).trans c6
 have q6:=(HG1.out.cell 6).trans d6
 have p7:=(HK1.out.cell 7).trans c7
 have q7:=(HG1.out.cell 7).trans d7
 have p8:=(HK1.out.cell 8).trans c8
 have q8:=(HG1.out.cell 8).trans d8
 have p9:=(HK1.out.cell 9).trans c9
 have q9:=(HG1.out.cell 9).trans d9
 have p10:=(HK1.out.cell 10).trans c10
 have q10:=(HG1.out.cell 10).trans d10
 have p11:=(HK1.out.cell 11).trans c11
 have q11:=(HG1.out.cell 11).trans d11
 have p12:=(HK1.out.cell 12).trans c12
 have q12:=(HG1.out.cell 12).trans d12
 have p13:=(HK1.out.cell 13).trans c13
 have q13:=(HG1.out.cell 13).trans d13
 have p14:=(HK1.out.cell 14).trans c14
 have q14:=(HG1.out.cell 14).trans d14
 have p15:=(HK1.out.cell 15).trans c15
 have q15:=(HG1.out.cell 15).trans d15
 have p26:=(HK1.out.cell 26).trans c26
 have q26:=(HG1.out.cell 26).trans d26
 have p27:=(HK1.out.cell 27).trans c27
 have q27:=(HG1.out.cell 27).trans d27
 have p29:=(HK1.out.cell 29).trans c29
 have q29:=(HG1.out.cell 29).trans d29
 have p16:=(HK1.out.cell 16).trans c16
 have q16:=(HG1.out.cell 16).trans d16
 have p17:=(HK1.out.cell 17).trans c17
 have q17:=(HG1.out.cell 17).trans d17
 have p18:=(HK1.out.cell 18).trans c18
 have q18:=(HG1.out.cell 18).trans d18
 have p19:=(HK1.out.cell 19).trans c19
 have q19:=(HG1.out.cell 19).trans d19
 have p20:=(HK1.out.cell 20).trans c20
 have q20:=(HG1.out.cell 20).trans d20
 have p21:=(HK1.out.cell 21).trans c21
 have q21:=(HG1.out.cell 21).trans d21
 have p22:=(HK1.out.cell 22).trans c22
 have q22:=(HG1.out.cell 22).trans d22
 have p23:=(HK1.out.cell 23).trans c23
 have q23:=(HG1.out.cell 23).trans d23
 have p28:=(HK1.out.cell 28).trans c28
 have q28:=(HG1.out.cell 28).trans d28
 have l1:=HK1.out.lt
 have l1':=HG1.out.lt
 clear c0 d0 c1 d1 c2 d2 c3 d3 c4 d4 c5 d5 c6 d6 c7 d7 c8 d8 c9 d9 c10 d10 c11 d11 c12 d12 c13 d13 c14 d14 c15 d15 c16 d16 c17 d17 c18 d18 c19 d19 c20 d20 c21 d21 c22 d22 c23 d23 c24 d24 c25 d25 c26 d26 c27 d27 c28 d28 c29 d29 c30 d30
 have t_id : (M.id != M.id) = false:=by simp
 have t_op : (M.op != M.op) = false:=by simp
 have t_version : (M.version != M.version) = false:=by simp
 have t_code : (M.code != M.code) = false:=by simp
 go_enter Tryz.func12,Tryz.ntmps12
 go_upto_region 1 with fail
 rw [<- HW1.out]
 go_upto_region 3 with fail
 clear p0 q0 p1 q1 p2 q2 p3 q3 p4 q4 p5 q5 p6 q6 p7 q7 p8 q8 p9 q9 p10 q10 t_id t_op t_version t_code
 have t_scope : (M.scope != M.scope) = false:=by simp
 have t_deref : (M.deref != M.deref) = false:=by simp
 have t_size : (M.size != M.size) = false:=by simp
 have t_time : (M.time != M.time) = false:=by simp
 have t_other : (M.other != M.other) = false:=by simp
 go_wp2_with fail
 (go_at_call 46)
 refine (HF.out _ HB1.out).mono ?_
 rintro e w2 ⟨hb2,q,rfl,hq⟩
 have HB2:=aa (HB1.out.trans (hb2.mono HB1.out.size))
 have HK2:=aa (af HK1.out hb2)
 have HG2:=aa (af HG1.out hb2)
 have e2_23:=(HK2.out.cell 23).trans C23.out
 have k2_23:=(HG2.out.cell 23).trans D23.out
 have e2_28:=(HK2.out.cell 28).trans C28.out
 have k2_28:=(HG2.out.cell 28).trans D28.out
 have l2:=HK2.out.lt
 have l2':=HG2.out.lt
 clear hb2
 clear p11 q11 p12 q12 p13 q13 p14 q14 p15 q15 p26 q26 p27 q27 p29 q29 p16 q16 p17 q17 p18 q18 p19 q19 p20 q20 p21 q21 p22 q22 p23 q23 p28 q28 l1 l1'
 cases q
 ·clear hq
  go_wp2_with fail
  go_ret
  exact ah rfl HB2.out
 have EF:=aa (hq rfl)
 clear hq
 go_wp2_with fail
 (go_at_call 47)
 refine (HA.out _ HB2.out).mono ?_
 rintro e w3 ⟨hb3,q,rfl,hq⟩
 have HB3:=aa (HB2.out.trans (hb3.mono HB2.out.size))
 have HK3:=aa (af HK2.out hb3)
 have HG3:=aa (af HG2.out hb3)
 have e3_28:=(HK3.out.cell 28).trans C28.out
 have k3_28:=(HG3.out.cell 28).trans D28.out
 have l3:=HK3.out.lt
 have l3':=HG3.out.lt
 clear hb3
 clear e2_23 k2_23 e2_28 k2_28 l2 l2'
 cases q
 ·clear hq
  go_wp2_with fail
  go_ret
  exact ah rfl HB3.out
 have EA:=aa (hq rfl)
 clear hq
 go_wp2_with fail
 (go_at_call 47)
 refine (HD.out _ HB3.out).mono ?_
 rintro e w4 ⟨hb4,q,rfl,hq⟩
 have HB4:=aa (HB3.out.trans (hb4.mono HB3.out.size))
 have HK4:=aa (af HK3.out hb4)
 have HG4:=aa (af HG3.out hb4)
 have e4_24:=(HK4.out.cell 24).trans C24.out
 have k4_24:=(HG4.out.cell 24).trans D24.out
 have e4_25:=(HK4.out.cell 25).trans C25.out
 have k4_25:=(HG4.out.cell 25).trans D25.out
 have e4_30:=(HK4.out.cell 30).trans C30.out
 have k4_30:=(HG4.out.cell 30).trans D30.out
 have l4:=HK4.out.lt
 have l4':=HG4.out.lt
 clear hb4
 clear e3_28 k3_28 l3 l3'
 cases q
 ·clear hq
  go_wp2_with fail
  go_ret
  exact ah rfl HB4.out
 have ED:=aa (hq rfl)
 clear hq
 by_cases e_list : M.list.length = X.list.length
 rotate_left
 ·have zL : ((M.list.length : Int) != (X.list.length : Int)) = true:=by rw [bne_iff_ne]; omega
  have wL : (M.list.length != X.list.length) = true:=by rw [bne_iff_ne]; omega
  have vL : (M.list.length == X.list.length) = false:=by rw [beq_eq_false_iff_ne]; omega
  clear HNE EF EA ED e_list
  go_wp2_with fail
  go_ret
  exact ah rfl HB4.out
 have zL : ((M.list.length : Int) != (X.list.length : Int)) = false:=by rw [bne_eq_false_iff_eq]; omega
 have wL : (M.list.length != X.list.length) = false:=by rw [bne_eq_false_iff_eq]; omega
 have vL : (M.list.length == X.list.length) = true:=by rw [beq_iff_eq]; omega
 have E_list:=aa e_list
 clear e_list
 by_cases e_mods : M.mods.length = X.mods.length
 rotate_left
 ·have zO : ((M.mods.length : Int) != (X.mods.length : Int)) = true:=by rw [bne_iff_ne]; omega
  have wO : (M.mods.length != X.mods.length) = true:=by rw [bne_iff_ne]; omega
  have vO : (M.mods.length == X.mods.length) = false:=by rw [beq_eq_false_iff_ne]; omega
  clear HNE EF EA ED e_mods
  go_wp2_with fail
  go_ret
  exact ah rfl HB4.out
 have zO : ((M.mods.length : Int) != (X.mods.length : Int)) = false:=by rw [bne_eq_false_iff_eq]; omega
 have wO : (M.mods.length != X.mods.length) = false:=by rw [bne_eq_false_iff_eq]; omega
 have vO : (M.mods.length == X.mods.length) = true:=by rw [beq_iff_eq]; omega
 have E_mods:=aa e_mods
 clear e_mods
 by_cases e_controls : M.controls.length = X.controls.length
 rotate_left
 ·have zC : ((M.controls.length : Int) != (X.controls.length : Int)) = true:=by rw [bne_iff_ne]; omega
  have wC : (M.controls.length != X.controls.length) = true:=by rw [bne_iff_ne]; omega
  have vC : (M.controls.length == X.controls.length) = false:=by rw [beq_eq_false_iff_ne]; omega
  clear HNE EF EA ED e_controls
  go_wp2_with fail
  go_ret
  exact ah rfl HB4.out
 have zC : ((M.controls.length : Int) != (X.controls.length : Int)) = false:=by rw [bne_eq_false_iff_eq]; omega
 have wC : (M.controls.length != X.controls.length) = false:=by rw [bne_eq_false_iff_eq]; omega
 have vC : (M.controls.length == X.controls.length) = true:=by rw [beq_iff_eq]; omega
 have E_controls:=aa e_controls
 clear e_controls
 exact absurd ⟨EF.out,EA.out,ED.out,E_list.out,E_mods.out,E_controls.out⟩ HNE.out
end Go.Proofs.YtbiglfpikfjbpaaGreatDoor
