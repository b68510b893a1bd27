import Derived.Test.YtbiglfpikfjbpaaGreatDoorM20
namespace Go.Proofs.YtbiglfpikfjbpaaGreatDoor
open Go.RowKit
set_option maxRecDepth 100000
set_option linter.unusedVariables false
set_option linter.unusedSimpArgs false
set_option maxHeartbeats 40000000
theorem same_ne_version (M X : Ms) (m1 m2 : MC) (S1 S2 : Nat -> Prop) (w : World) (h1 : MsAt w S1 M m1) (h2 : MsAt w S2 X m2) (e_id : X.id = M.id) (e_op : X.op = M.op) (e_version : ¬ X.version = M.version) :
  Calls Tryz.prog 12 #[.agg m1.cells,.agg m2.cells] w (aq false w):=by
 obtain ⟨f,at1,li1,mo1,de1,co1,hm1,-,hf1,ha1,hl1,ho1,hd1,hc1⟩:=h1
 obtain ⟨g,at2,li2,mo2,de2,co2,hm2,-,hf2,ha2,hl2,ho2,hd2,hc2⟩:=h2
 obtain ⟨cs,hcs⟩ : ∃ cs,cs = m1.cells:=⟨_,rfl⟩
 obtain ⟨ds,hds⟩ : ∃ ds,ds = m2.cells:=⟨_,rfl⟩
 have c0 : cs[0]? = some (.int .i64 M.id):=by rw [hcs,hm1]; rfl
 have d0 : ds[0]? = some (.int .i64 M.id):=by rw [<- e_id,hds,hm2]; rfl
 have c1 : cs[1]? = some (.int .i64 M.op):=by rw [hcs,hm1]; rfl
 have d1 : ds[1]? = some (.int .i64 M.op):=by rw [<- e_op,hds,hm2]; rfl
 have c2 : cs[2]? = some (.int .i64 M.version):=by rw [hcs,hm1]; rfl
 have d2 : ds[2]? = some (.int .i64 X.version):=by rw [hds,hm2]; rfl
 rw [<- hcs,<- hds]
 obtain ⟨wa,hwa⟩ : ∃ W,W = w.alloc (.cells cs 30):=⟨_,rfl⟩
 have hsa : wa.heap.size = w.heap.size + 1:=by rw [hwa]; simp
 have hba : Below w.heap.size w wa:=by rw [hwa]; exact (Below.refl w.heap.size w).alloc (Nat.le_refl _) _
 have hka : Bk wa w.heap.size 30 cs:=by rw [hwa]; exact Bk.new w _ _
 obtain ⟨w1,hw1⟩ : ∃ W,W = wa.alloc (.cells ds 30):=⟨_,rfl⟩
 have hb1 : Below w.heap.size w w1:=by rw [hw1]; exact hba.alloc hba.size _
 have hk1 : Bk w1 w.heap.size 30 cs:=by rw [hw1]; exact hka.alloc _
 have hg1 : Bk w1 (w.heap.size + 1) 30 ds:=by rw [hw1,<- hsa]; exact Bk.new wa _ _
 have hw1' : w1 = (w.alloc (.cells cs 30)).alloc (.cells ds 30):=by rw [hw1,hwa]
 have HB1:=aa hb1
 have HK1:=aa hk1
 have HG1:=aa hg1
 have HW1:=aa hw1'
 have p0:=(HK1.out.cell 0).trans c0
 have q0:=(HG1.out.cell 0).trans d0
 have p1:=(HK1.out.cell 1).trans c1
 have q1:=(HG1.out.cell 1).trans d1
 have p2:=(HK1.out.cell 2).trans c2
 have q2:=(HG1.out.cell 2).trans d2
 clear hcs hds hm1 hm2 hwa hsa hba hka hw1 hb1 hk1 hg1 hw1' hf1 hf2 ha1 ha2 hl1 hl2 ho1 ho2 hd1 hd2 hc1 hc2 HK1 HG1 c0 d0 c1 d1 c2 d2 e_id e_op
 have t_id : (M.id != M.id) = false:=by simp
 have t_op : (M.op != M.op) = false:=by simp
 have t_version : (M.version != X.version) = true:=by rw [bne_iff_ne]; exact fun h => e_version h.symm
 clear e_version
 go_enter Tryz.func12,Tryz.ntmps12
 go_upto_region 1 with fail
 rw [<- HW1.out]
 go_wp2_with fail
 go_ret
 exact ah rfl HB1.out
theorem same_ne_name (M X : Ms) (m1 m2 : MC) (S1 S2 : Nat -> Prop) (w : World) (h1 : MsAt w S1 M m1) (h2 : MsAt w S2 X m2) (e_id : X.id = M.id) (e_op : X.op = M.op) (e_version : X.version = M.version) (e_name : ¬ X.name = M.name) :
  Calls Tryz.prog 12 #[.agg m1.cells,.agg m2.cells] w (aq false w):=by
 obtain ⟨f,at1,li1,mo1,de1,co1,hm1,-,hf1,ha1,hl1,ho1,hd1,hc1⟩:=h1
 obtain ⟨g,at2,li2,mo2,de2,co2,hm2,-,hf2,ha2,hl2,ho2,hd2,hc2⟩:=h2
 obtain ⟨cs,hcs⟩ : ∃ cs,cs = m1.cells:=⟨_,rfl⟩
 obtain ⟨ds,hds⟩ : ∃ ds,ds = m2.cells:=⟨_,rfl⟩
 have c0 : cs[0]? = some (.int .i64 M.id):=by rw [hcs,hm1]; rfl
 have d0 : ds[0]? = some (.int .i64 M.id):=by rw [<- e_id,hds,hm2]; rfl
 have c1 : cs[1]? = some (.int .i64 M.op):=by rw [hcs,hm1]; rfl
 have d1 : ds[1]? = some (.int .i64 M.op):=by rw [<- e_op,hds,hm2]; rfl
 have c2 : cs[2]? = some (.int .i64 M.version):=by rw [hcs,hm1]; rfl
 have d2 : ds[2]? = some (.int .i64 M.version):=by rw [<- e_version,hds,hm2]; rfl
 have c3 : cs[3]? = some (.string M.name):=by rw [hcs,hm1]; rfl
 have d3 : ds[3]? = some (.string X.name):=by rw [hds,hm2]; rfl
 rw [<- hcs,<- hds]
 obtain ⟨wa,hwa⟩ : ∃ W,W = w.alloc (.cells cs 30):=⟨_,rfl⟩
 have hsa : wa.heap.size = w.heap.size + 1:=by rw [hwa]; simp
 have hba : Below w.heap.size w wa:=by rw [hwa]; exact (Below.refl w.heap.size w).alloc (Nat.le_refl _) _
 have hka : Bk wa w.heap.size 30 cs:=by rw [hwa]; exact Bk.new w _ _
 obtain ⟨w1,hw1⟩ : ∃ W,W = wa.alloc (.cells ds 30):=⟨_,rfl⟩
 have hb1 : Below w.heap.size w w1:=by rw [hw1]; exact hba.alloc hba.size _
 have hk1 : Bk w1 w.heap.size 30 cs:=by rw [hw1]; exact hka.alloc _
 have hg1 : Bk w1 (w.heap.size + 1) 30 ds:=by rw [hw1,<- hsa]; exact Bk.new wa _ _
 have hw1' : w1 = (w.alloc (.cells cs 30)).alloc (.cells ds 30):=by rw [hw1,hwa]
 have HB1:=aa hb1
 have HK1:=aa hk1
 have HG1:=aa hg1
 have HW1:=aa hw1'
 have p0:=(HK1.out.cell 0).trans c0
 have q0:=(HG1.out.cell 0).trans d0
 have p1:=(HK1.out.cell 1).trans c1
 have q1:=(HG1.out.cell 1).trans d1
 have p2:=(HK1.out.cell 2).trans c2
 have q2:=(HG1.out.cell 2).trans d2
 have p3:=(HK1.out.cell 3).trans c3
 have q3:=(HG1.out.cell 3).trans d3
 clear hcs hds hm1 hm2 hwa hsa hba hka hw1 hb1 hk1 hg1 hw1' hf1 hf2 ha1 ha2 hl1 hl2 ho1 ho2 hd1 hd2 hc1 hc2 HK1 HG1 c0 d0 c1 d1 c2 d2 c3 d3 e_id e_op e_version
 have t_id : (M.id != M.id) = false:=by simp
 have t_op : (M.op != M.op) = false:=by simp
 have t_version : (M.version != M.version) = false:=by simp
 have t_name : (M.name.toList == X.name.toList) = false:=by rw [beq_eq_false_iff_ne]; exact fun h => e_name (cN h).symm
 clear e_name
 go_enter Tryz.func12,Tryz.ntmps12
 go_upto_region 1 with fail
 rw [<- HW1.out]
 go_wp2_with fail
 go_ret
 exact ah rfl HB1.out
theorem same_ne_sasl (M X : Ms) (m1 m2 : MC) (S1 S2 : Nat -> Prop) (w : World) (h1 : MsAt w S1 M m1) (h2 : MsAt w S2 X m2) (e_id : X.id = M.id) (e_op : X.op = M.op) (e_version : X.version = M.version) (e_name : X.name = M.name) (e_sasl : ¬ X.sasl = M.sasl) :
  Calls Tryz.prog 12 #[.agg m1.cells,.agg m2.cells] w (aq false w):=by
 obtain ⟨f,at1,li1,mo1,de1,co1,hm1,-,hf1,ha1,hl1,ho1,hd1,hc1⟩:=h1
 obtain ⟨g,at2,li2,mo2,de2,co2,hm2,-,hf2,ha2,hl2,ho2,hd2,hc2⟩:=h2
 obtain ⟨cs,hcs⟩ : ∃ cs,cs = m1.cells:=⟨_,rfl⟩
 obtain ⟨ds,hds⟩ : ∃ ds,ds = m2.cells:=⟨_,rfl⟩
 have c0 : cs[0]? = some (.int .i64 M.id):=by rw [hcs,hm1]; rfl
 have d0 : ds[0]? = some (.int .i64 M.id):=by rw [<- e_id,hds,hm2]; rfl
 have c1 : cs[1]? = some (.int .i64 M.op):=by rw [hcs,hm1]; rfl
 have d1 : ds[1]? = some (.int .i64 M.op):=by rw [<- e_op,hds,hm2]; rfl
 have c2 : cs[2]? = some (.int .i64 M.version):=by rw [hcs,hm1]; rfl
 have d2 : ds[2]? = some (.int .i64 M.version):=by rw [<- e_version,hds,hm2]; rfl
 have c3 : cs[3]? = some (.string M.name):=by rw [hcs,hm1]; rfl
 have d3 : ds[3]? = some (.string M.name):=by rw [<- e_name,hds,hm2]; rfl
 have c4 : cs[4]? = some (.bool M.sasl):=by rw [hcs,hm1]; rfl
 have d4 : ds[4]? = some (.bool X.sasl):=by rw [hds,hm2]; rfl
 rw [<- hcs,<- hds]
 obtain ⟨wa,hwa⟩ : ∃ W,W = w.alloc (.cells cs 30):=⟨_,rfl⟩
 have hsa : wa.heap.size = w.heap.size + 1:=by rw [hwa]; simp
 have hba : Below w.heap.size w wa:=by rw [hwa]; exact (Below.refl w.heap.size w).alloc (Nat.le_refl _) _
 have hka : Bk wa w.heap.size 30 cs:=by rw [hwa]; exact Bk.new w _ _
 obtain ⟨w1,hw1⟩ : ∃ W,W = wa.alloc (.cells ds 30):=⟨_,rfl⟩
 have hb1 : Below w.heap.size w w1:=by rw [hw1]; exact hba.alloc hba.size _
 have hk1 : Bk w1 w.heap.size 30 cs:=by rw [hw1]; exact hka.alloc _
 have hg1 : Bk w1 (w.heap.size + 1) 30 ds:=by rw [hw1,<- hsa]; exact Bk.new wa _ _
 have hw1' : w1 = (w.alloc (.cells cs 30)).alloc (.cells ds 30):=by rw [hw1,hwa]
 have HB1:=aa hb1
 have HK1:=aa hk1
 have HG1:=aa hg1
 have HW1:=aa hw1'
 have p0:=(HK1.out.cell 0).trans c0
 have q0:=(HG1.out.cell 0).trans d0
 have p1:=(HK1.out.cell 1).trans c1
 have q1:=(HG1.out.cell 1).trans d1
 have p2:=(HK1.out.cell 2).trans c2
 have q2:=(HG1.out.cell 2).trans d2
 have p3:=(HK1.out.cell 3).trans c3
 have q3:=(HG1.out.cell 3).trans d3
 have p4:=(HK1.out.cell 4).trans c4
 have q4:=(HG1.out.cell 4).trans d4
 clear hcs hds hm1 hm2 hwa hsa hba hka hw1 hb1 hk1 hg1 hw1' hf1 hf2 ha1 ha2 hl1 hl2 ho1 ho2 hd1 hd2 hc1 hc2 HK1 HG1 c0 d0 c1 d1 c2 d2 c3 d3 c4 d4 e_id e_op e_version e_name
 have t_id : (M.id != M.id) = false:=by simp
 have t_op : (M.op != M.op) = false:=by simp
 have t_version : (M.version != M.version) = false:=by simp
 obtain ⟨hu,hv⟩ | ⟨hu,hv⟩ : (M.sasl = true /\ X.sasl = false) \/ (M.sasl = false /\ X.sasl = true):=by cases hM : M.sasl <;> cases hX : X.sasl <;> simp_all
 all_goals
  rw [hu] at p4
  rw [hv] at q4
  clear hu hv e_sasl
  go_enter Tryz.func12,Tryz.ntmps12
  go_upto_region 1 with fail
  rw [<- HW1.out]
  go_wp2_with fail
  go_ret
  exact ah rfl HB1.out
theorem same_ne_secret (M X : Ms) (m1 m2 : MC) (S1 S2 : Nat -> Prop) (w : World) (h1 : MsAt w S1 M m1) (h2 : MsAt w S2 X m2) (e_id : X.id = M.id) (e_op : X.op = M.op) (e_version : X.version = M.version) (e_name : X.name = M.name) (e_sasl : X.sasl = M.sasl) (e_secret : ¬ X.secret = M.secret) :
  Calls Tryz.prog 12 #[.agg m1.cells,.agg m2.cells] w (aq false w):=by
 obtain ⟨f,at1,li1,mo1,de1,co1,hm1,-,hf1,ha1,hl1,ho1,hd1,hc1⟩:=h1
 obtain ⟨g,at2,li2,mo2,de2,co2,hm2,-,hf2,ha2,hl2,ho2,hd2,hc2⟩:=h2
 obtain ⟨cs,hcs⟩ : ∃ cs,cs = m1.cells:=⟨_,rfl⟩
 obtain ⟨ds,hds⟩ : ∃ ds,ds = m2.cells:=⟨_,rfl⟩
 have c0 : cs[0]? = some (.int .i64 M.id):=by rw [hcs,hm1]; rfl
 have d0 : ds[0]? = some (.int .i64 M.id):=by rw [<- e_id,hds,hm2]; rfl
 have c1 : cs[1]? = some (.int .i64 M.op):=by rw [hcs,hm1]; rfl
 have d1 : ds[1]? = some (.int .i64 M.op):=by rw [<- e_op,hds,hm2]; rfl
 have c2 : cs[2]? = some (.int .i64 M.version):=by rw [hcs,hm1]; rfl
 have d2 : ds[2]? = some (.int .i64 M.version):=by rw [<- e_version,hds,hm2]; rfl
 have c3 : cs[3]? = some (.string M.name):=by rw [hcs,hm1]; rfl
 have d3 : ds[3]? = some (.string M.name):=by rw [<- e_name,hds,hm2]; rfl
 have c4 : cs[4]? = some (.bool M.sasl):=by rw [hcs,hm1]; rfl
 have d4 : ds[4]? = some (.bool M.sasl):=by rw [<- e_sasl,hds,hm2]; rfl
 have c5 : cs[5]? = some (.string M.secret):=by rw [hcs,hm1]; rfl
 have d5 : ds[5]? = some (.string X.secret):=by rw [hds,hm2]; rfl
 rw [<- hcs,<- hds]
 obtain ⟨wa,hwa⟩ : ∃ W,W = w.alloc (.cells cs 30):=⟨_,rfl⟩
 have hsa : wa.heap.size = w.heap.size + 1:=by rw [hwa]; simp
 have hba : Below w.heap.size w wa:=by rw [hwa]; exact (Below.refl w.heap.size w).alloc (Nat.le_refl _) _
 have hka : Bk wa w.heap.size 30 cs:=by rw [hwa]; exact Bk.new w _ _
 obtain ⟨w1,hw1⟩ : ∃ W,W = wa.alloc (.cells ds 30):=⟨_,rfl⟩
 have hb1 : Below w.heap.size w w1:=by rw [hw1]; exact hba.alloc hba.size _
 have hk1 : Bk w1 w.heap.size 30 cs:=by rw [hw1]; exact hka.alloc _
 have hg1 : Bk w1 (w.heap.size + 1) 30 ds:=by rw [hw1,<- hsa]; exact Bk.new wa _ _
 have hw1' : w1 = (w.alloc (.cells cs 30)).alloc (.cells ds 30):=by rw [hw1,hwa]
 have HB1:=aa hb1
 have HK1:=aa hk1
 have HG1:=aa hg1
 have HW1:=aa hw1'
 have p0:=(HK1.out.cell 0).trans c0
 have q0:=(HG1.out.cell 0).trans d0
 have p1:=(HK1.out.cell 1).trans c1
 have q1:=(HG1.out.cell 1).trans d1
 have p2:=(HK1.out.cell 2).trans c2
 have q2:=(HG1.out.cell 2).trans d2
 have p3:=(HK1.out.cell 3).trans c3
 have q3:=(HG1.out.cell 3).trans d3
 have p4:=(HK1.out.cell 4).trans c4
 have q4:=(HG1.out.cell 4).trans d4
 have p5:=(HK1.out.cell 5).trans c5
 have q5:=(HG1.out.cell 5).trans d5
 clear hcs hds hm1 hm2 hwa hsa hba hka hw1 hb1 hk1 hg1 hw1' hf1 hf2 ha1 ha2 hl1 hl2 ho1 ho2 hd1 hd2 hc1 hc2 HK1 HG1 c0 d0 c1 d1 c2 d2 c3 d3 c4 d4 c5 d5 e_id e_op e_version e_name e_sasl
 have t_id : (M.id != M.id) = false:=by simp
 have t_op : (M.op != M.op) = false:=by simp
 have t_version : (M.version != M.version) = false:=by simp
 have t_secret : (M.secret.toList == X.secret.toList) = false:=by rw [beq_eq_false_iff_ne]; exact fun h => e_secret (cN h).symm
 clear e_secret
 go_enter Tryz.func12,Tryz.ntmps12
 go_upto_region 1 with fail
 rw [<- HW1.out]
 go_wp2_with fail
 go_ret
 exact ah rfl HB1.out
end Go.Proofs.YtbiglfpikfjbpaaGreatDoor
