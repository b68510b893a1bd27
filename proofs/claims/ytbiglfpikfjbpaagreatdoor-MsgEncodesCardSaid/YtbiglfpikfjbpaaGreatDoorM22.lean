import Derived.Test.YtbiglfpikfjbpaaGreatDoorM20
namespace Go.Proofs.YtbiglfpikfjbpaaGreatDoor
open Go.RowKit
set_option maxRecDepth 100000
set_option linter.unusedVariables false
set_option linter.unusedSimpArgs false
set_option maxHeartbeats 40000000
theorem same_ne_kind (M X : Ms) (m1 m2 : MC) (S1 S2 : Nat -> Prop) (w : World) (h1 : MsAt w S1 M m1) (h2 : MsAt w S2 X m2) (e_id : X.id = M.id) (e_op : X.op = M.op) (e_version : X.version = M.version) (e_name : X.name = M.name) (e_sasl : X.sasl = M.sasl) (e_secret : X.secret = M.secret) (e_kind : ¬ X.kind = M.kind) :
  Calls Tryz.prog 12 #[.agg m1.cells,.agg m2.cells] w (aq false w):=by
 obtain ⟨f,at1,li1,mo1,de1,co1,hm1,-,hf1,ha1,hl1,ho1,hd1,hc1⟩:=h1
 obtain ⟨g,at2,li2,mo2,de2,co2,hm2,-,hf2,ha2,hl2,ho2,hd2,hc2⟩:=h2
 obtain ⟨cs,hcs⟩ : ∃ cs,cs = m1.cells:=⟨_,rfl⟩
 obtain ⟨ds,hds⟩ : ∃ ds,ds = m2.cells:=⟨_,rfl⟩
 have c0 : cs[0]? = some (.int .i64 M.id):=by rw [hcs,hm1]; rfl
 have d0 : ds[0]? = some (.int .i64 M.id):=by rw [<- e_id,hds,hm2]; rfl
 have c1 : cs[1]? = some (.int .i64 M.op):=by rw [hcs,hm1]; rfl
 have d1 : ds[1]? = some (.int .i64 M.op):=by rw [<- e_op,hds,hm2]; rfl
 have c2 : cs[2]? = some (.int .i64 M.version):=by rw [hcs,hm1]; rfl
 have d2 : ds[2]? = some (.int .i64 M.version):=by rw [<- e_version,hds,hm2]; rfl
 have c3 : cs[3]? = some (.string M.name):=by rw [hcs,hm1]; rfl
 have d3 : ds[3]? = some (.string M.name):=by rw [<- e_name,hds,hm2]; rfl
 have c4 : cs[4]? = some (.bool M.sasl):=by rw [hcs,hm1]; rfl
 have d4 : ds[4]? = some (.bool M.sasl):=by rw [<- e_sasl,hds,hm2]; rfl
 have c5 : cs[5]? = some (.string M.secret):=by rw [hcs,hm1]; rfl
 have d5 : ds[5]? = some (.string M.secret):=by rw [<- e_secret,hds,hm2]; rfl
 have c6 : cs[6]? = some (.string M.kind):=by rw [hcs,hm1]; rfl
 have d6 : ds[6]? = some (.string X.kind):=by rw [hds,hm2]; rfl
 rw [<- hcs,<- hds]
 obtain ⟨wa,hwa⟩ : ∃ W,W = w.alloc (.cells cs 30):=⟨_,rfl⟩
 have hsa : wa.heap.size = w.heap.size + 1:=by rw [hwa]; simp
 have hba : Below w.heap.size w wa:=by rw [hwa]; exact (Below.refl w.heap.size w).alloc (Nat.le_refl _) _
 have hka : Bk wa w.heap.size 30 cs:=by rw [hwa]; exact Bk.new w _ _
 obtain ⟨w1,hw1⟩ : ∃ W,W = wa.alloc (.cells ds 30):=⟨_,rfl⟩
 have hb1 : Below w.heap.size w w1:=by rw [hw1]; exact hba.alloc hba.size _
 have hk1 : Bk w1 w.heap.size 30 cs:=by rw [hw1]; exact hka.alloc _
 have hg1 : Bk w1 (w.heap.size + 1) 30 ds:=by rw [hw1,<- hsa]; exact Bk.new wa _ _
 have hw1' : w1 = (w.alloc (.cells cs 30)).alloc (.cells ds 30):=by rw [hw1,hwa]
 have HB1:=aa hb1
 have HK1:=aa hk1
 have HG1:=aa hg1
 have HW1:=aa hw1'
 have p0:=(HK1.out.cell 0).trans c0
 have q0:=(HG1.out.cell 0).trans d0
 have p1:=(HK1.out.cell 1).trans c1
 have q1:=(HG1.out.cell 1).trans d1
 have p2:=(HK1.out.cell 2).trans c2
 have q2:=(HG1.out.cell 2).trans d2
 have p3:=(HK1.out.cell 3).trans c3
 have q3:=(HG1.out.cell 3).trans d3
 have p4:=(HK1.out.cell 4).trans c4
 have q4:=(HG1.out.cell 4).trans d4
 have p5:=(HK1.out.cell 5).trans c5
 have q5:=(HG1.out.cell 5).trans d5
 have p6:=(HK1.out.cell 6).trans c6
 have q6:=(HG1.out.cell 6).trans d6
 clear hcs hds hm1 hm2 hwa hsa hba hka hw1 hb1 hk1 hg1 hw1' hf1 hf2 ha1 ha2 hl1 hl2 ho1 ho2 hd1 hd2 hc1 hc2 HK1 HG1 c0 d0 c1 d1 c2 d2 c3 d3 c4 d4 c5 d5 c6 d6 e_id e_op e_version e_name e_sasl e_secret
 have t_id : (M.id != M.id) = false:=by simp
 have t_op : (M.op != M.op) = false:=by simp
 have t_version : (M.version != M.version) = false:=by simp
 have t_kind : (M.kind.toList == X.kind.toList) = false:=by rw [beq_eq_false_iff_ne]; exact fun h => e_kind (cN h).symm
 clear e_kind
 go_enter Tryz.func12,Tryz.ntmps12
 go_upto_region 1 with fail
 rw [<- HW1.out]
 go_wp2_with fail
 go_ret
 exact ah rfl HB1.out
theorem same_ne_has (M X : Ms) (m1 m2 : MC) (S1 S2 : Nat -> Prop) (w : World) (h1 : MsAt w S1 M m1) (h2 : MsAt w S2 X m2) (e_id : X.id = M.id) (e_op : X.op = M.op) (e_version : X.version = M.version) (e_name : X.name = M.name) (e_sasl : X.sasl = M.sasl) (e_secret : X.secret = M.secret) (e_kind : X.kind = M.kind) (e_has : ¬ X.has = M.has) :
  Calls Tryz.prog 12 #[.agg m1.cells,.agg m2.cells] w (aq false w):=by
 obtain ⟨f,at1,li1,mo1,de1,co1,hm1,-,hf1,ha1,hl1,ho1,hd1,hc1⟩:=h1
 obtain ⟨g,at2,li2,mo2,de2,co2,hm2,-,hf2,ha2,hl2,ho2,hd2,hc2⟩:=h2
 obtain ⟨cs,hcs⟩ : ∃ cs,cs = m1.cells:=⟨_,rfl⟩
 obtain ⟨ds,hds⟩ : ∃ ds,ds = m2.cells:=⟨_,rfl⟩
 have c0 : cs[0]? = some (.int .i64 M.id):=by rw [hcs,hm1]; rfl
 have d0 : ds[0]? = some (.int .i64 M.id):=by rw [<- e_id,hds,hm2]; rfl
 have c1 : cs[1]? = some (.int .i64 M.op):=by rw [hcs,hm1]; rfl
 have d1 : ds[1]? = some (.int .i64 M.op):=by rw [<- e_op,hds,hm2]; rfl
 have c2 : cs[2]? = some (.int .i64 M.version):=by rw [hcs,hm1]; rfl
 have d2 : ds[2]? = some (.int .i64 M.version):=by rw [<- e_version,hds,hm2]; rfl
 have c3 : cs[3]? = some (.string M.name):=by rw [hcs,hm1]; rfl
 have d3 : ds[3]? = some (.string M.name):=by rw [<- e_name,hds,hm2]; rfl
 have c4 : cs[4]? = some (.bool M.sasl):=by rw [hcs,hm1]; rfl
 have d4 : ds[4]? = some (.bool M.sasl):=by rw [<- e_sasl,hds,hm2]; rfl
 have c5 : cs[5]? = some (.string M.secret):=by rw [hcs,hm1]; rfl
 have d5 : ds[5]? = some (.string M.secret):=by rw [<- e_secret,hds,hm2]; rfl
 have c6 : cs[6]? = some (.string M.kind):=by rw [hcs,hm1]; rfl
 have d6 : ds[6]? = some (.string M.kind):=by rw [<- e_kind,hds,hm2]; rfl
 have c7 : cs[7]? = some (.bool M.has):=by rw [hcs,hm1]; rfl
 have d7 : ds[7]? = some (.bool X.has):=by rw [hds,hm2]; rfl
 rw [<- hcs,<- hds]
 obtain ⟨wa,hwa⟩ : ∃ W,W = w.alloc (.cells cs 30):=⟨_,rfl⟩
 have hsa : wa.heap.size = w.heap.size + 1:=by rw [hwa]; simp
 have hba : Below w.heap.size w wa:=by rw [hwa]; exact (Below.refl w.heap.size w).alloc (Nat.le_refl _) _
 have hka : Bk wa w.heap.size 30 cs:=by rw [hwa]; exact Bk.new w _ _
 obtain ⟨w1,hw1⟩ : ∃ W,W = wa.alloc (.cells ds 30):=⟨_,rfl⟩
 have hb1 : Below w.heap.size w w1:=by rw [hw1]; exact hba.alloc hba.size _
 have hk1 : Bk w1 w.heap.size 30 cs:=by rw [hw1]; exact hka.alloc _
 have hg1 : Bk w1 (w.heap.size + 1) 30 ds:=by rw [hw1,<- hsa]; exact Bk.new wa _ _
 have hw1' : w1 = (w.alloc (.cells cs 30)).alloc (.cells ds 30):=by rw [hw1,hwa]
 have HB1:=aa hb1
 have HK1:=aa hk1
 have HG1:=aa hg1
 have HW1:=aa hw1'
 have p0:=(HK1.out.cell 0).trans c0
 have q0:=(HG1.out.cell 0).trans d0
 have p1:=(HK1.out.cell 1).trans c1
 have q1:=(HG1.out.cell 1).trans d1
 have p2:=(HK1.out.cell 2).trans c2
 have q2:=(HG1.out.cell 2).trans d2
 have p3:=(HK1.out.cell 3).trans c3
 have q3:=(HG1.out.cell 3).trans d3
 have p4:=(HK1.out.cell 4).trans c4
 have q4:=(HG1.out.cell 4).trans d4
 have p5:=(HK1.out.cell 5).trans c5
 have q5:=(HG1.out.cell 5).trans d5
 have p6:=(HK1.out.cell 6).trans c6
 have q6:=(HG1.out.cell 6).trans d6
 have p7:=(HK1.out.cell 7).trans c7
 have q7:=(HG1.out.cell 7).trans d7
 clear hcs hds hm1 hm2 hwa hsa hba hka hw1 hb1 hk1 hg1 hw1' hf1 hf2 ha1 ha2 hl1 hl2 ho1 ho2 hd1 hd2 hc1 hc2 HK1 HG1 c0 d0 c1 d1 c2 d2 c3 d3 c4 d4 c5 d5 c6 d6 c7 d7 e_id e_op e_version e_name e_sasl e_secret e_kind
 have t_id : (M.id != M.id) = false:=by simp
 have t_op : (M.op != M.op) = false:=by simp
 have t_version : (M.version != M.version) = false:=by simp
 obtain ⟨hu,hv⟩ | ⟨hu,hv⟩ : (M.has = true /\ X.has = false) \/ (M.has = false /\ X.has = true):=by cases hM : M.has <;> cases hX : X.has <;> simp_all
 all_goals
  rw [hu] at p7
  rw [hv] at q7
  clear hu hv e_has
  go_enter Tryz.func12,Tryz.ntmps12
  go_upto_region 1 with fail
  rw [<- HW1.out]
  go_wp2_with fail
  go_ret
  exact ah rfl HB1.out
theorem same_ne_value (M X : Ms) (m1 m2 : MC) (S1 S2 : Nat -> Prop) (w : World) (h1 : MsAt w S1 M m1) (h2 : MsAt w S2 X m2) (e_id : X.id = M.id) (e_op : X.op = M.op) (e_version : X.version = M.version) (e_name : X.name = M.name) (e_sasl : X.sasl = M.sasl) (e_secret : X.secret = M.secret) (e_kind : X.kind = M.kind) (e_has : X.has = M.has) (e_value : ¬ X.value = M.value) :
  Calls Tryz.prog 12 #[.agg m1.cells,.agg m2.cells] w (aq false w):=by
 obtain ⟨f,at1,li1,mo1,de1,co1,hm1,-,hf1,ha1,hl1,ho1,hd1,hc1⟩:=h1
 obtain ⟨g,at2,li2,mo2,de2,co2,hm2,-,hf2,ha2,hl2,ho2,hd2,hc2⟩:=h2
 obtain ⟨cs,hcs⟩ : ∃ cs,cs = m1.cells:=⟨_,rfl⟩
 obtain ⟨ds,hds⟩ : ∃ ds,ds = m2.cells:=⟨_,rfl⟩
 have c0 : cs[0]? = some (.int .i64 M.id):=by rw [hcs,hm1]; rfl
 have d0 : ds[0]? = some (.int .i64 M.id):=by rw [<- e_id,hds,hm2]; rfl
 have c1 : cs[1]? = some (.int .i64 M.op):=by rw [hcs,hm1]; rfl
 have d1 : ds[1]? = some (.int .i64 M.op):=by rw [<- e_op,hds,hm2]; rfl
 have c2 : cs[2]? = some (.int .i64 M.version):=by rw [hcs,hm1]; rfl
 have d2 : ds[2]? = some (.int .i64 M.version):=by rw [<- e_version,hds,hm2]; rfl
 have c3 : cs[3]? = some (.string M.name):=by rw [hcs,hm1]; rfl
 have d3 : ds[3]? = some (.string M.name):=by rw [<- e_name,hds,hm2]; rfl
 have c4 : cs[4]? = some (.bool M.sasl):=by rw [hcs,hm1]; rfl
 have d4 : ds[4]? = some (.bool M.sasl):=by rw [<- e_sasl,hds,hm2]; rfl
 have c5 : cs[5]? = some (.string M.secret):=by rw [hcs,hm1]; rfl
 have d5 : ds[5]? = some (.string M.secret):=by rw [<- e_secret,hds,hm2]; rfl
 have c6 : cs[6]? = some (.string M.kind):=by rw [hcs,hm1]; rfl
 have d6 : ds[6]? = some (.string M.kind):=by rw [<- e_kind,hds,hm2]; rfl
 have c7 : cs[7]? = some (.bool M.has):=by rw [hcs,hm1]; rfl
 have d7 : ds[7]? = some (.bool M.has):=by rw [<- e_has,hds,hm2]; rfl
 have c8 : cs[8]? = some (.string M.value):=by rw [hcs,hm1]; rfl
 have d8 : ds[8]? = some (.string X.value):=by rw [hds,hm2]; rfl
 rw [<- hcs,<- hds]
 obtain ⟨wa,hwa⟩ : ∃ W,W = w.alloc (.cells cs 30):=⟨_,rfl⟩
 have hsa : wa.heap.size = w.heap.size + 1:=by rw [hwa]; simp
 have hba : Below w.heap.size w wa:=by rw [hwa]; exact (Below.refl w.heap.size w).alloc (Nat.le_refl _) _
 have hka : Bk wa w.heap.size 30 cs:=by rw [hwa]; exact Bk.new w _ _
 obtain ⟨w1,hw1⟩ : ∃ W,W = wa.alloc (.cells ds 30):=⟨_,rfl⟩
 have hb1 : Below w.heap.size w w1:=by rw [hw1]; exact hba.alloc hba.size _
 have hk1 : Bk w1 w.heap.size 30 cs:=by rw [hw1]; exact hka.alloc _
 have hg1 : Bk w1 (w.heap.size + 1) 30 ds:=by rw [hw1,<- hsa]; exact Bk.new wa _ _
 have hw1' : w1 = (w.alloc (.cells cs 30)).alloc (.cells ds 30):=by rw [hw1,hwa]
 have HB1:=aa hb1
 have HK1:=aa hk1
 have HG1:=aa hg1
 have HW1:=aa hw1'
 have p0:=(HK1.out.cell 0).trans c0
 have q0:=(HG1.out.cell 0).trans d0
 have p1:=(HK1.out.cell 1).trans c1
 have q1:=(HG1.out.cell 1).trans d1
 have p2:=(HK1.out.cell 2).trans c2
 have q2:=(HG1.out.cell 2).trans d2
 have p3:=(HK1.out.cell 3).trans c3
 have q3:=(HG1.out.cell 3).trans d3
 have p4:=(HK1.out.cell 4).trans c4
 have q4:=(HG1.out.cell 4).trans d4
 have p5:=(HK1.out.cell 5).trans c5
 have q5:=(HG1.out.cell 5).trans d5
 have p6:=(HK1.out.cell 6).trans c6
 have q6:=(HG1.out.cell 6).trans d6
 have p7:=(HK1.out.cell 7).trans c7
 have q7:=(HG1.out.cell 7).trans d7
 have p8:=(HK1.out.cell 8).trans c8
 have q8:=(HG1.out.cell 8).trans d8
 clear hcs hds hm1 hm2 hwa hsa hba hka hw1 hb1 hk1 hg1 hw1' hf1 hf2 ha1 ha2 hl1 hl2 ho1 ho2 hd1 hd2 hc1 hc2 HK1 HG1 c0 d0 c1 d1 c2 d2 c3 d3 c4 d4 c5 d5 c6 d6 c7 d7 c8 d8 e_id e_op e_version e_name e_sasl e_secret e_kind e_has
 have t_id : (M.id != M.id) = false:=by simp
 have t_op : (M.op != M.op) = false:=by simp
 have t_version : (M.version != M.version) = false:=by simp
 have t_value : (M.value.toList == X.value.toList) = false:=by rw [beq_eq_false_iff_ne]; exact fun h => e_value (cN h).symm
 clear e_value
 go_enter Tryz.func12,Tryz.ntmps12
 go_upto_region 1 with fail
 rw [<- HW1.out]
 go_wp2_with fail
 go_ret
 exact ah rfl HB1.out
end Go.Proofs.YtbiglfpikfjbpaaGreatDoor
