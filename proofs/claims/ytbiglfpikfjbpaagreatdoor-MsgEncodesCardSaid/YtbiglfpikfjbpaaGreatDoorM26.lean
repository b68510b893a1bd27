import Derived.Test.YtbiglfpikfjbpaaGreatDoorM20
namespace Go.Proofs.YtbiglfpikfjbpaaGreatDoor
open Go.RowKit
set_option maxRecDepth 100000
set_option linter.unusedVariables false
set_option linter.unusedSimpArgs false
set_option maxHeartbeats 40000000
theorem same_ne_sec2 (M X : Ms) (m1 m2 : MC) (S1 S2 : Nat -> Prop) (w : World) (h1 : MsAt w S1 M m1) (h2 : MsAt w S2 X m2) (e_id : X.id = M.id) (e_op : X.op = M.op) (e_version : X.version = M.version) (e_name : X.name = M.name) (e_sasl : X.sasl = M.sasl) (e_secret : X.secret = M.secret) (e_kind : X.kind = M.kind) (e_has : X.has = M.has) (e_value : X.value = M.value) (e_code : X.code = M.code) (e_text : X.text = M.text) (e_scope : X.scope = M.scope) (e_deref : X.deref = M.deref) (e_size : X.size = M.size) (e_time : X.time = M.time) (e2 : ¬ (X.types = M.types /\ X.rdn = M.rdn /\ X.old = M.old /\ X.other = M.other)) :
  Calls Tryz.prog 12 #[.agg m1.cells,.agg m2.cells] w (aq false w):=by
 obtain ⟨f,at1,li1,mo1,de1,co1,hm1,-,hf1,ha1,hl1,ho1,hd1,hc1⟩:=h1
 obtain ⟨g,at2,li2,mo2,de2,co2,hm2,-,hf2,ha2,hl2,ho2,hd2,hc2⟩:=h2
 obtain ⟨cs,hcs⟩ : ∃ cs,cs = m1.cells:=⟨_,rfl⟩
 obtain ⟨ds,hds⟩ : ∃ ds,ds = m2.cells:=⟨_,rfl⟩
 have c0 : cs[0]? = some (.int .i64 M.id):=by rw [hcs,hm1]; rfl
 have d0 : ds[0]? = some (.int .i64 M.id):=by rw [<- e_id,hds,hm2]; rfl
 have c1 : cs[1]? = some (.int .i64 M.op):=by rw [hcs,hm1]; rfl
 have d1 : ds[1]? = some (.int .i64 M.op):=by rw [<- e_op,hds,hm2]; rfl
 have c2 : cs[2]? = some (.int .i64 M.version):=by rw [hcs,hm1]; rfl
 have d2 : ds[2]? = some (.int .i64 M.version):=by rw [<- e_version,hds,hm2]; rfl
 have c3 : cs[3]? = some (.string M.name):=by rw [hcs,hm1]; rfl
 have d3 : ds[3]? = some (.string M.name):=by rw [<- e_name,hds,hm2]; rfl
 have c4 : cs[4]? = some (.bool M.sasl):=by rw [hcs,hm1]; rfl
 have d4 : ds[4]? = some (.bool M.sasl):=by rw [<- e_sasl,hds,hm2]; rfl
 have c5 : cs[5]? = some (.string M.secret):=by rw [hcs,hm1]; rfl
 have d5 : ds[5]? = some (.string M.secret):=by rw [<- e_secret,hds,hm2]; rfl
 have c6 : cs[6]? = some (.string M.kind):=by rw [hcs,hm1]; rfl
 have d6 : ds[6]? = some (.string M.kind):=by rw [<- e_kind,hds,hm2]; rfl
 have c7 : cs[7]? = some (.bool M.has):=by rw [hcs,hm1]; rfl
 have d7 : ds[7]? = some (.bool M.has):=by rw [<- e_has,hds,hm2]; rfl
 have c8 : cs[8]? = some (.string M.value):=by rw [hcs,hm1]; rfl
 have d8 : ds[8]? = some (.string M.value):=by rw [<- e_value,hds,hm2]; rfl
 have c9 : cs[9]? = some (.int .i64 M.code):=by rw [hcs,hm1]; rfl
 have d9 : ds[9]? = some (.int .i64 M.code):=by rw [<- e_code,hds,hm2]; rfl
 have c10 : cs[10]? = some (.string M.text):=by rw [hcs,hm1]; rfl
 have d10 : ds[10]? = some (.string M.text):=by rw [<- e_text,hds,hm2]; rfl
 have c11 : cs[11]? = some (.int .i64 M.scope):=by rw [hcs,hm1]; rfl
 have d11 : ds[11]? = some (.int .i64 M.scope):=by rw [<- e_scope,hds,hm2]; rfl
 have c12 : cs[12]? = some (.int .i64 M.deref):=by rw [hcs,hm1]; rfl
 have d12 : ds[12]? = some (.int .i64 M.deref):=by rw [<- e_deref,hds,hm2]; rfl
 have c13 : cs[13]? = some (.int .i64 M.size):=by rw [hcs,hm1]; rfl
 have d13 : ds[13]? = some (.int .i64 M.size):=by rw [<- e_size,hds,hm2]; rfl
 have c14 : cs[14]? = some (.int .i64 M.time):=by rw [hcs,hm1]; rfl
 have d14 : ds[14]? = some (.int .i64 M.time):=by rw [<- e_time,hds,hm2]; rfl
 have c15 : cs[15]? = some (.bool M.types):=by rw [hcs,hm1]; rfl
 have d15 : ds[15]? = some (.bool X.types):=by rw [hds,hm2]; rfl
 have c26 : cs[26]? = some (.string M.rdn):=by rw [hcs,hm1]; rfl
 have d26 : ds[26]? = some (.string X.rdn):=by rw [hds,hm2]; rfl
 have c27 : cs[27]? = some (.bool M.old):=by rw [hcs,hm1]; rfl
 have d27 : ds[27]? = some (.bool X.old):=by rw [hds,hm2]; rfl
 have c29 : cs[29]? = some (.int .i64 M.other):=by rw [hcs,hm1]; rfl
 have d29 : ds[29]? = some (.int .i64 X.other):=by rw [hds,hm2]; rfl
 rw [<- hcs,<- hds]
 obtain ⟨wa,hwa⟩ : ∃ W,W = w.alloc (.cells cs 30):=⟨_,rfl⟩
 have hsa : wa.heap.size = w.heap.size + 1:=by rw [hwa]; simp
 have hba : Below w.heap.size w wa:=by rw [hwa]; exact (Below.refl w.heap.size w).alloc (Nat.le_refl _) _
 have hka : Bk wa w.heap.size 30 cs:=by rw [hwa]; exact Bk.new w _ _
 obtain ⟨w1,hw1⟩ : ∃ W,W = wa.alloc (.cells ds 30):=⟨_,rfl⟩
 have hb1 : Below w.heap.size w w1:=by rw [hw1]; exact hba.alloc hba.size _
 have hk1 : Bk w1 w.heap.size 30 cs:=by rw [hw1]; exact hka.alloc _
 have hg1 : Bk w1 (w.heap.size + 1) 30 ds:=by rw [hw1,<- hsa]; exact Bk.new wa _ _
 have hw1' : w1 = (w.alloc (.cells cs 30)).alloc (.cells ds 30):=by rw [hw1,hwa]
 have HB1:=aa hb1
 have HK1:=aa hk1
 have HG1:=aa hg1
 have HW1:=aa hw1'
 have p0:=(HK1.out.cell 0).trans c0
 have q0:=(HG1.out.cell 0).trans d0
 have p1:=(HK1.out.cell 1).trans c1
 have q1:=(HG1.out.cell 1).trans d1
 have p2:=(HK1.out.cell 2).trans c2
 have q2:=(HG1.out.cell 2).trans d2
 have p3:=(HK1.out.cell 3).trans c3
 have q3:=(HG1.out.cell 3).trans d3
 have p4:=(HK1.out.cell 4).trans c4
 have q4:=(HG1.out.cell 4).trans d4
 have p5:=(HK1.out.cell 5).trans c5
 have q5:=(HG1.out.cell 5).trans d5
 have p6:=(HK1.out.cell 6).trans c6
 have q6:=(HG1.out.cell 6).trans d6
 have p7:=(HK1.out.cell 7).trans c7
 have q7:=(HG1.out.cell 7).trans d7
 have p8:=(HK1.out.cell 8).trans c8
 have q8:=(HG1.out.cell 8).trans d8
 have p9:=(HK1.out.cell 9).trans c9
 have q9:=(HG1.out.cell 9).trans d9
 have p10:=(HK1.out.cell 10).trans c10
 have q10:=(HG1.out.cell 10).trans d10
 have p11:=(HK1.out.cell 11).trans c11
 have q11:=(HG1.out.cell 11).trans d11
 have p12:=(HK1.out.cell 12).trans c12
 have q12:=(HG1.out.cell 12).trans d12
 have p13:=(HK1.out.cell 13).trans c13
 have q13:=(HG1.out.cell 13).trans d13
 have p14:=(HK1.out.cell 14).trans c14
 have q14:=(HG1.out.cell 14).trans d14
 have p15:=(HK1.out.cell 15).trans c15
 have q15:=(HG1.out.cell 15).trans d15
 have p26:=(HK1.out.cell 26).trans c26
 have q26:=(HG1.out.cell 26).trans d26
 have p27:=(HK1.out.cell 27).trans c27
 have q27:=(HG1.out.cell 27).trans d27
 have p29:=(HK1.out.cell 29).trans c29
 have q29:=(HG1.out.cell 29).trans d29
 clear hcs hds hm1 hm2 hwa hsa hba hka hw1 hb1 hk1 hg1 hw1' hf1 hf2 ha1 ha2 hl1 hl2 ho1 ho2 hd1 hd2 hc1 hc2 HK1 HG1 c0 d0 c1 d1 c2 d2 c3 d3 c4 d4 c5 d5 c6 d6 c7 d7 c8 d8 c9 d9 c10 d10 c11 d11 c12 d12 c13 d13 c14 d14 c15 d15 c26 d26 c27 d27 c29 d29 e_id e_op e_version e_name e_sasl e_secret e_kind e_has e_value e_code e_text e_scope e_deref e_size e_time
 have t_id : (M.id != M.id) = false:=by simp
 have t_op : (M.op != M.op) = false:=by simp
 have t_version : (M.version != M.version) = false:=by simp
 have t_code : (M.code != M.code) = false:=by simp
 go_enter Tryz.func12,Tryz.ntmps12
 go_upto_region 1 with fail
 rw [<- HW1.out]
 go_upto_region 3 with fail
 clear p0 q0 p1 q1 p2 q2 p3 q3 p4 q4 p5 q5 p6 q6 p7 q7 p8 q8 p9 q9 p10 q10 t_id t_op t_version t_code
 have t_scope : (M.scope != M.scope) = false:=by simp
 have t_deref : (M.deref != M.deref) = false:=by simp
 have t_size : (M.size != M.size) = false:=by simp
 have t_time : (M.time != M.time) = false:=by simp
 by_cases e_types : X.types = M.types
 rotate_left
 ·clear e2
  obtain ⟨hu,hv⟩ | ⟨hu,hv⟩ : (M.types = true /\ X.types = false) \/ (M.types = false /\ X.types = true):=by cases hM : M.types <;> cases hX : X.types <;> simp_all
  all_goals
   rw [hu] at p15
   rw [hv] at q15
   clear hu hv e_types
   go_wp2_with fail
   go_ret
   exact ah rfl HB1.out
 rw [e_types] at q15
 have E_types:=aa e_types
 clear e_types
 by_cases e_rdn : X.rdn = M.rdn
 rotate_left
 ·clear e2 E_types
  have t_rdn : (M.rdn.toList == X.rdn.toList) = false:=by rw [beq_eq_false_iff_ne]; exact fun h => e_rdn (cN h).symm
  clear e_rdn
  go_wp2_with fail
  go_ret
  exact ah rfl HB1.out
 rw [e_rdn] at q26
 have E_rdn:=aa e_rdn
 clear e_rdn
 by_cases e_old : X.old = M.old
 rotate_left
 ·clear e2 E_types E_rdn
  obtain ⟨hu,hv⟩ | ⟨hu,hv⟩ : (M.old = true /\ X.old = false) \/ (M.old = false /\ X.old = true):=by cases hM : M.old <;> cases hX : X.old <;> simp_all
  all_goals
   rw [hu] at p27
   rw [hv] at q27
   clear hu hv e_old
   go_wp2_with fail
   go_ret
   exact ah rfl HB1.out
 rw [e_old] at q27
 have E_old:=aa e_old
 clear e_old
 by_cases e_other : X.other = M.other
 rotate_left
 ·clear e2 E_types E_rdn E_old
  have t_other : (M.other != X.other) = true:=by rw [bne_iff_ne]; exact fun h => e_other h.symm
  clear e_other
  go_wp2_with fail
  go_ret
  exact ah rfl HB1.out
 rw [e_other] at q29
 have E_other:=aa e_other
 clear e_other
 have t_other : (M.other != M.other) = false:=by simp
 exact absurd ⟨E_types.out,E_rdn.out,E_old.out,E_other.out⟩ e2
end Go.Proofs.YtbiglfpikfjbpaaGreatDoor
