import Derived.Test.YtbiglfpikfjbpaaGreatDoorM38
import Derived.Test.YtbiglfpikfjbpaaGreatDoorM35
import Derived.Test.YtbiglfpikfjbpaaGreatDoorM12
import Derived.Test.YtbiglfpikfjbpaaGreatDoorM16
import Derived.Test.YtbiglfpikfjbpaaGreatDoorM17
import Derived.Test.YtbiglfpikfjbpaaGreatDoorM3
import Derived.Deep.RegionHeld3
namespace Go.Proofs.YtbiglfpikfjbpaaGreatDoor
open Go.RowKit
open Go.PlainAid
set_option maxRecDepth 100000
set_option linter.unusedVariables false
set_option linter.unusedSimpArgs false
set_option maxHeartbeats 40000000
theorem rop_ren (M : Ms) (m : MC) (S : Nat -> Prop) (w : World) (h : MsAt w S M m) (hop : M.op = 12) (hd1 : M.dest.length <= 1) (hl : (PB.encs M.renT).length < 15000000) :
  Calls Tryz.prog 25 #[.agg m.cells] w (RefS (PB.enc (.mk 1 true 12 ⟨#[]⟩ M.renT)) w):=by
 have HND:=aa fun (s : ByteArray) (hs : s.data.toList = PB.encs M.renT) (W : World) => cK 1 12 s M.renT W (by omega) (by omega) hs (by omega)
 have HTR:=aa fun (W : World) => t_truth M.old W
 obtain ⟨f,at',li,mo,de,co,hm,⟨hz_name,hz_secret,hz_kind,hz_value,hz_text,hz_rdn⟩,hfl,hat,hli,hmo,hde,hco⟩:=h
 obtain ⟨cs,hcs⟩ : ∃ cs,cs = m.cells:=⟨_,rfl⟩
 have c1 : cs[1]? = some (.int .i64 M.op):=by rw [hcs,hm]; rfl
 have c3 : cs[3]? = some (.string M.name):=by rw [hcs,hm]; rfl
 have c26 : cs[26]? = some (.string M.rdn):=by rw [hcs,hm]; rfl
 have c27 : cs[27]? = some (.bool M.old):=by rw [hcs,hm]; rfl
 have c28 : cs[28]? = some (.slice de.A de.n de.c):=by rw [hcs,hm]; rfl
 rw [hop] at c1
 rw [<- hcs]
 obtain ⟨wc,hwc⟩ : ∃ W,W = w.alloc (.cells cs 30):=⟨_,rfl⟩
 have hbx : Below w.heap.size w wc:=by rw [hwc]; exact (Below.refl w.heap.size w).alloc (Nat.le_refl _) _
 have hkx : Bk wc w.heap.size 30 cs:=by rw [hwc]; exact Bk.new w _ cs
 have HBX:=aa hbx
 have HKX:=aa hkx
 have HWC:=aa hwc
 have p1 : (w.alloc (.cells cs 30)).cell? ⟨w.heap.size,1,none⟩ = some (.int .i64 12):=by rw [<- hwc]; exact (hkx.cell 1).trans c1
 have p3 : (w.alloc (.cells cs 30)).cell? ⟨w.heap.size,3,none⟩ = some (.string M.name):=by rw [<- hwc]; exact (hkx.cell 3).trans c3
 have p26 : (w.alloc (.cells cs 30)).cell? ⟨w.heap.size,26,none⟩ = some (.string M.rdn):=by rw [<- hwc]; exact (hkx.cell 26).trans c26
 have p27 : (w.alloc (.cells cs 30)).cell? ⟨w.heap.size,27,none⟩ = some (.bool M.old):=by rw [<- hwc]; exact (hkx.cell 27).trans c27
 have p28 : (w.alloc (.cells cs 30)).cell? ⟨w.heap.size,28,none⟩ = some (.slice de.A de.n de.c):=by rw [<- hwc]; exact (hkx.cell 28).trans c28
 have HKF:=aa fun (W : World) (hb : Below wc.heap.size wc W) => (show W.cell? ⟨w.heap.size,1,none⟩ = some (.int .i64 12) /\ W.cell? ⟨w.heap.size,3,none⟩ = some (.string M.name) /\ W.cell? ⟨w.heap.size,26,none⟩ = some (.string M.rdn) /\ W.cell? ⟨w.heap.size,27,none⟩ = some (.bool M.old) /\ W.cell? ⟨w.heap.size,28,none⟩ = some (.slice de.A de.n de.c) /\ w.heap.size < W.heap.size from ⟨((af hkx hb).cell 1).trans c1,((af hkx hb).cell 3).trans c3,((af hkx hb).cell 26).trans c26,((af hkx hb).cell 27).trans c27,((af hkx hb).cell 28).trans c28,(af hkx hb).lt⟩)
 unfold Ms.renT at hl HND |-
 rw [bd,ai,ai,ai,ar] at hl
 have s_name:=aB 0 4 M.name
 have e_name : (PB.enc (tstr M.name)).length = (PB.enc (.mk 0 false 4 M.name [])).length:=rfl
 have HT_name:=aa fun (W : World) => bf M.name W (by omega)
 have s_rdn:=aB 0 4 M.rdn
 have e_rdn : (PB.enc (tstr M.rdn)).length = (PB.enc (.mk 0 false 4 M.rdn [])).length:=rfl
 have HT_rdn:=aa fun (W : World) => bf M.rdn W (by omega)
 have hde0 : de.n = M.dest.length:=hde.1
 have hdsl:=cX hde
 obtain ⟨d1,d2,d3,d4⟩:=hde
 obtain ⟨⟨A,nn,cap⟩,hv⟩ : ∃ r,r = de:=⟨_,rfl⟩
 rw [<- hv] at d1 d2 d3 d4 p28 HKF hde0 hdsl
 simp only at d1 d2 d3 d4 p28 HKF hde0 hdsl
 subst d1
 have hcm : cap <= 9223372036854775807:=by unfold maxLen at d3; omega
 have HKS:=aa fun (W : World) (hb : Below wc.heap.size wc W) => (show W.cell? ⟨w.heap.size,26,none⟩ = some (.string M.rdn) /\ W.cell? ⟨w.heap.size,27,none⟩ = some (.bool M.old) from ⟨((af hkx hb).cell 26).trans c26,((af hkx hb).cell 27).trans c27⟩)
 obtain hde9 | ⟨t,hde9⟩ : M.dest = [] \/ ∃ t,M.dest = [t]:=by
  match hM : M.dest,hd1 with
  | [],_ => exact Or.inl rfl
  | [t],_ => exact Or.inr ⟨t,rfl⟩
 ·rw [hde9] at hl HND p28 HKF d4 hdsl |-
  simp only [List.map_nil,ar,List.length_nil] at hl p28 HKF
  have HN:=aa hl
  clear hwc hbx hkx hcs hm hfl hat hli hmo hco hz_name hz_secret hz_kind hz_value hz_text hz_rdn c1 c3 c26 c27 c28 hl s_name e_name s_rdn e_rdn hop hd1 hde0 d2 d3 d4 hv hde9 hdsl
  go_enter Tryz.func25,Tryz.ntmps25
  go_upto_region 34 with (first
   | (go_at_call 26; (with_reducible refine (HT_name.out _).mono ?_); rintro e w1 ⟨hb1,x1,rfl,hx1⟩; rw [<- HWC.out] at hb1; have hn1:=hb1; obtain ⟨p1,p3,p26,p27,p28,hlt8⟩:=HKF.out _ hn1; have HX1:=aa hx1; clear hx1 hb1)
   | fail)
  have HBR:=aa hn1.drew
  go_region_held3 (fun W => W.cell? ⟨w.heap.size,26,none⟩ = some (.string M.rdn) /\ W.cell? ⟨w.heap.size,27,none⟩ = some (.bool M.old))
   (first | (with_reducible exact HKS.out _ HBR.out) | (with_reducible exact HKS.out _ (by assumption)))
   (first
    | (go_at_call 26; (with_reducible refine (HT_rdn.out _).mono ?_); rintro e w2 ⟨hb2,x2,rfl,hx2⟩; have hn2:=ag HBR.out hb2; have HX2:=aa hx2; obtain ⟨a2,E2,k2⟩:=cat HX1.out HX2.out (by have hn:=HN.out; (try simp only [List.length_append] at hn |-); omega); clear hx2 hb2)
    | (go_at_call 27; (with_reducible refine (HTR.out _).mono ?_); rintro e w3 ⟨hb3,x3,rfl,hx3⟩; have hn3:=ag hn2 hb3; have HX3:=aa hx3; obtain ⟨a3,E3,k3⟩:=cat E2.out HX3.out (by have hn:=HN.out; (try simp only [List.length_append] at hn |-); omega); clear hx3 hb3)
    | fail)
  all_goals
   obtain ⟨p1,p3,p26,p27,p28,hlt8⟩:=HKF.out _ hn3
   go_wp2_with (first
    | (go_at_call 29; go_must (with_reducible refine (HND.out a3 (by rw [E3.out]; simp only [PB.encs,List.map_nil,List.append_assoc,List.append_nil]) _).mono ?_); rintro e w9 ⟨hb9,r,rfl,hr⟩; have HB9:=aa (HBX.out.trans ((ag hn3 hb9).mono HBX.out.size)); have HR:=aa hr; clear hb9 hr)
    | fail)
   go_ret
   exact ⟨HB9.out,r,rfl,HR.out⟩
 ·rw [hde9] at hl HND p28 HKF d4 hdsl |-
  simp only [List.map_cons,List.map_nil,ai,ar,List.length_cons,List.length_nil,Nat.zero_add] at hl p28 HKF
  have s3:=aB 2 0 t
  have e3 : (PB.enc (town 0 t)).length = (PB.enc (.mk 2 false 0 t [])).length:=rfl
  have HTO:=aa fun (W : World) => t_own 0 t W (by omega) (by omega)
  have HN:=aa hl
  obtain ⟨b,o,rfl,hbl,hc0⟩:=hdsl 0 (.string t) rfl
  rw [Nat.add_zero] at hc0
  have HC0:=aa fun (W : World) (hb : Below wc.heap.size wc W) => (show W.cell? ⟨b,o,none⟩ = some (.string t) /\ b < W.heap.size from ⟨((hbx.trans (hb.mono hbx.size)).cell (p:=⟨b,o,none⟩) hbl).trans hc0,Nat.lt_of_lt_of_le hbl (hbx.trans (hb.mono hbx.size)).size⟩)
  clear s3 e3 hbl hc0
  clear hwc hbx hkx hcs hm hfl hat hli hmo hco hz_name hz_secret hz_kind hz_value hz_text hz_rdn c1 c3 c26 c27 c28 hl s_name e_name s_rdn e_rdn hop hd1 hde0 d2 d3 d4 hv hde9
  go_enter Tryz.func25,Tryz.ntmps25
  go_upto_region 34 with (first
   | (go_at_call 26; (with_reducible refine (HT_name.out _).mono ?_); rintro e w1 ⟨hb1,x1,rfl,hx1⟩; rw [<- HWC.out] at hb1; have hn1:=hb1; obtain ⟨p1,p3,p26,p27,p28,hlt8⟩:=HKF.out _ hn1; have HX1:=aa hx1; clear hx1 hb1)
   | fail)
  have HBR:=aa hn1.drew
  go_region_held3 (fun W => W.cell? ⟨w.heap.size,26,none⟩ = some (.string M.rdn) /\ W.cell? ⟨w.heap.size,27,none⟩ = some (.bool M.old))
   (first | (with_reducible exact HKS.out _ HBR.out) | (with_reducible exact HKS.out _ (by assumption)))
   (first
    | (go_at_call 26; (with_reducible refine (HT_rdn.out _).mono ?_); rintro e w2 ⟨hb2,x2,rfl,hx2⟩; have hn2:=ag HBR.out hb2; have HX2:=aa hx2; obtain ⟨a2,E2,k2⟩:=cat HX1.out HX2.out (by have hn:=HN.out; (try simp only [List.length_append] at hn |-); omega); clear hx2 hb2)
    | (go_at_call 27; (with_reducible refine (HTR.out _).mono ?_); rintro e w3 ⟨hb3,x3,rfl,hx3⟩; have hn3:=ag hn2 hb3; have HX3:=aa hx3; obtain ⟨a3,E3,k3⟩:=cat E2.out HX3.out (by have hn:=HN.out; (try simp only [List.length_append] at hn |-); omega); clear hx3 hb3)
    | fail)
  all_goals
   obtain ⟨p1,p3,p26,p27,p28,hlt8⟩:=HKF.out _ hn3
   obtain ⟨hc0,hb0⟩:=HC0.out _ hn3
   go_wp2_with (first
    | (go_at_call 29; (with_reducible refine (HTO.out _).mono ?_); rintro e w4 ⟨hb4,x4,rfl,hx4⟩; have hn4:=ag hn3 hb4; obtain ⟨p1,p3,p26,p27,p28,hlt8⟩:=HKF.out _ hn4; have HX4:=aa hx4; obtain ⟨a4,E4,k4⟩:=cat E3.out HX4.out (by have hn:=HN.out; (try simp only [List.length_append] at hn |-); omega); clear hx4 hb4)
    | (go_at_call 29; go_must (with_reducible refine (HND.out a4 (by rw [E4.out]; simp only [PB.encs,List.map_cons,List.map_nil,List.cons_append,List.nil_append,List.append_assoc,List.append_nil]) _).mono ?_); rintro e w9 ⟨hb9,r,rfl,hr⟩; have HB9:=aa (HBX.out.trans ((ag hn4 hb9).mono HBX.out.size)); have HR:=aa hr; clear hb9 hr)
    | fail)
   go_ret
   exact ⟨HB9.out,r,rfl,HR.out⟩
theorem rop_cmp (M : Ms) (m : MC) (S : Nat -> Prop) (w : World) (h : MsAt w S M m) (hop : M.op = 14) (hl : (PB.encs M.cmpT).length < 15000000) :
  Calls Tryz.prog 25 #[.agg m.cells] w (RefS (PB.enc (.mk 1 true 14 ⟨#[]⟩ M.cmpT)) w):=by
 have HND:=aa fun (s : ByteArray) (hs : s.data.toList = PB.encs M.cmpT) (W : World) => cK 1 14 s M.cmpT W (by omega) (by omega) hs (by omega)
 obtain ⟨f,at',li,mo,de,co,hm,⟨hz_name,hz_secret,hz_kind,hz_value,hz_text,hz_rdn⟩,hfl,hat,hli,hmo,hde,hco⟩:=h
 obtain ⟨cs,hcs⟩ : ∃ cs,cs = m.cells:=⟨_,rfl⟩
 have c1 : cs[1]? = some (.int .i64 M.op):=by rw [hcs,hm]; rfl
 have c3 : cs[3]? = some (.string M.name):=by rw [hcs,hm]; rfl
 have c6 : cs[6]? = some (.string M.kind):=by rw [hcs,hm]; rfl
 have c8 : cs[8]? = some (.string M.value):=by rw [hcs,hm]; rfl
 rw [hop] at c1
 rw [<- hcs]
 obtain ⟨wc,hwc⟩ : ∃ W,W = w.alloc (.cells cs 30):=⟨_,rfl⟩
 have hbx : Below w.heap.size w wc:=by rw [hwc]; exact (Below.refl w.heap.size w).alloc (Nat.le_refl _) _
 have hkx : Bk wc w.heap.size 30 cs:=by rw [hwc]; exact Bk.new w _ cs
 have HBX:=aa hbx
 have HKX:=aa hkx
 have HWC:=aa hwc
 have p1 : (w.alloc (.cells cs 30)).cell? ⟨w.heap.size,1,none⟩ = some (.int .i64 14):=by rw [<- hwc]; exact (hkx.cell 1).trans c1
 have p3 : (w.alloc (.cells cs 30)).cell? ⟨w.heap.size,3,none⟩ = some (.string M.name):=by rw [<- hwc]; exact (hkx.cell 3).trans c3
 have p6 : (w.alloc (.cells cs 30)).cell? ⟨w.heap.size,6,none⟩ = some (.string M.kind):=by rw [<- hwc]; exact (hkx.cell 6).trans c6
 have p8 : (w.alloc (.cells cs 30)).cell? ⟨w.heap.size,8,none⟩ = some (.string M.value):=by rw [<- hwc]; exact (hkx.cell 8).trans c8
 have HKF:=aa fun (W : World) (hb : Below wc.heap.size wc W) => (show W.cell? ⟨w.heap.size,1,none⟩ = some (.int .i64 14) /\ W.cell? ⟨w.heap.size,3,none⟩ = some (.string M.name) /\ W.cell? ⟨w.heap.size,6,none⟩ = some (.string M.kind) /\ W.cell? ⟨w.heap.size,8,none⟩ = some (.string M.value) /\ w.heap.size < W.heap.size from ⟨((af hkx hb).cell 1).trans c1,((af hkx hb).cell 3).trans c3,((af hkx hb).cell 6).trans c6,((af hkx hb).cell 8).trans c8,(af hkx hb).lt⟩)
 unfold Ms.cmpT at hl HND |-
 rw [ai,ai,ar] at hl
 have s0:=cy 0 16 [tstr M.kind,tstr M.value]
 have e0 : (PB.enc (aI [tstr M.kind,tstr M.value])).length = (PB.enc (.mk 0 true 16 ⟨#[]⟩ [tstr M.kind,tstr M.value])).length:=rfl
 rw [ai,ai,ar] at s0
 have s_name:=aB 0 4 M.name
 have e_name : (PB.enc (tstr M.name)).length = (PB.enc (.mk 0 false 4 M.name [])).length:=rfl
 have HT_name:=aa fun (W : World) => bf M.name W (by omega)
 have s_kind:=aB 0 4 M.kind
 have e_kind : (PB.enc (tstr M.kind)).length = (PB.enc (.mk 0 false 4 M.kind [])).length:=rfl
 have HT_kind:=aa fun (W : World) => bf M.kind W (by omega)
 have s_value:=aB 0 4 M.value
 have e_value : (PB.enc (tstr M.value)).length = (PB.enc (.mk 0 false 4 M.value [])).length:=rfl
 have HT_value:=aa fun (W : World) => bf M.value W (by omega)
 have HLI:=aa fun (s : ByteArray) (hs : s.data.toList = PB.encs [tstr M.kind,tstr M.value]) (W : World) => cT s _ W hs (by rw [ai,ai,ar]; omega)
 have HN:=aa (And.intro hl (And.intro s0 e0))
 have HKS:=aa fun (W : World) (hb : Below wc.heap.size wc W) => (show W.cell? ⟨w.heap.size,6,none⟩ = some (.string M.kind) /\ W.cell? ⟨w.heap.size,8,none⟩ = some (.string M.value) from ⟨((af hkx hb).cell 6).trans c6,((af hkx hb).cell 8).trans c8⟩)
 clear hwc hbx hkx hcs hm hfl hat hli hmo hde hco hz_name hz_secret hz_kind hz_value hz_text hz_rdn c1 c3 c6 c8 hl s0 e0 hop s_name e_name s_kind e_kind s_value e_value
 go_enter Tryz.func25,Tryz.ntmps25
 go_upto_region 38 with (first
  | (go_at_call 26; (with_reducible refine (HT_name.out _).mono ?_); rintro e w1 ⟨hb1,x1,rfl,hx1⟩; rw [<- HWC.out] at hb1; have hn1:=hb1; obtain ⟨p1,p3,p6,p8,hlt8⟩:=HKF.out _ hn1; have HX1:=aa hx1; clear hx1 hb1)
  | fail)
 have HBR:=aa hn1.drew
 go_region_held3 (fun W => W.cell? ⟨w.heap.size,6,none⟩ = some (.string M.kind) /\ W.cell? ⟨w.heap.size,8,none⟩ = some (.string M.value))
  (first | (with_reducible exact HKS.out _ HBR.out) | (with_reducible exact HKS.out _ (by assumption)))
  (first
   | (go_at_call 26; (with_reducible refine (HT_kind.out _).mono ?_); rintro e w2 ⟨hb2,x2,rfl,hx2⟩; have hn2:=ag HBR.out hb2; have HX2:=aa hx2; clear hx2 hb2)
   | (go_at_call 26; (with_reducible refine (HT_value.out _).mono ?_); rintro e w3 ⟨hb3,x3,rfl,hx3⟩; have hn3:=ag hn2 hb3; have HX3:=aa hx3; obtain ⟨a3,E3,k3⟩:=cat HX2.out HX3.out (by have hn:=HN.out; (try simp only [List.length_append] at hn |-); omega); clear hx3 hb3)
   | (go_at_call 28; (with_reducible refine (HLI.out a3 (by rw [E3.out]; simp only [PB.encs,List.append_nil]) _).mono ?_); rintro e w4 ⟨hb4,x4,rfl,hx4⟩; have hn4:=ag hn3 hb4; have HX4:=aa hx4; obtain ⟨a4,E4,k4⟩:=cat HX1.out HX4.out (by have hn:=HN.out; (try simp only [List.length_append] at hn |-); omega); clear hx4 hb4)
   | fail)
 all_goals
  obtain ⟨p1,p3,p6,p8,hlt8⟩:=HKF.out _ hn4
  go_wp2_with (first
   | (go_at_call 29; go_must (with_reducible refine (HND.out a4 (by rw [E4.out]; simp only [PB.encs,List.append_assoc,List.append_nil]) _).mono ?_); rintro e w9 ⟨hb9,r,rfl,hr⟩; have HB9:=aa (HBX.out.trans ((ag hn4 hb9).mono HBX.out.size)); have HR:=aa hr; clear hb9 hr)
   | fail)
  go_ret
  exact ⟨HB9.out,r,rfl,HR.out⟩
theorem rop_ext (M : Ms) (m : MC) (S : Nat -> Prop) (w : World) (h : MsAt w S M m) (hop : M.op = 23) (hsz : M.name.size < 16000000) (hl : (PB.encs M.extT).length < 15000000) :
  Calls Tryz.prog 25 #[.agg m.cells] w (RefS (PB.enc (.mk 1 true 23 ⟨#[]⟩ M.extT)) w):=by
 have HND:=aa fun (s : ByteArray) (hs : s.data.toList = PB.encs M.extT) (W : World) => cK 1 23 s M.extT W (by omega) (by omega) hs (by omega)
 obtain ⟨f,at',li,mo,de,co,hm,⟨hz_name,hz_secret,hz_kind,hz_value,hz_text,hz_rdn⟩,hfl,hat,hli,hmo,hde,hco⟩:=h
 obtain ⟨cs,hcs⟩ : ∃ cs,cs = m.cells:=⟨_,rfl⟩
 have c1 : cs[1]? = some (.int .i64 M.op):=by rw [hcs,hm]; rfl
 have c3 : cs[3]? = some (.string M.name):=by rw [hcs,hm]; rfl
 have c6 : cs[6]? = some (.string M.kind):=by rw [hcs,hm]; rfl
 have c7 : cs[7]? = some (.bool M.has):=by rw [hcs,hm]; rfl
 have c8 : cs[8]? = some (.string M.value):=by rw [hcs,hm]; rfl
 rw [hop] at c1
 rw [<- hcs]
 obtain ⟨wc,hwc⟩ : ∃ W,W = w.alloc (.cells cs 30):=⟨_,rfl⟩
 have hbx : Below w.heap.size w wc:=by rw [hwc]; exact (Below.refl w.heap.size w).alloc (Nat.le_refl _) _
 have hkx : Bk wc w.heap.size 30 cs:=by rw [hwc]; exact Bk.new w _ cs
 have HBX:=aa hbx
 have HKX:=aa hkx
 have HWC:=aa hwc
 have p1 : (w.alloc (.cells cs 30)).cell? ⟨w.heap.size,1,none⟩ = some (.int .i64 23):=by rw [<- hwc]; exact (hkx.cell 1).trans c1
 have p3 : (w.alloc (.cells cs 30)).cell? ⟨w.heap.size,3,none⟩ = some (.string M.name):=by rw [<- hwc]; exact (hkx.cell 3).trans c3
 have p6 : (w.alloc (.cells cs 30)).cell? ⟨w.heap.size,6,none⟩ = some (.string M.kind):=by rw [<- hwc]; exact (hkx.cell 6).trans c6
 have p7 : (w.alloc (.cells cs 30)).cell? ⟨w.heap.size,7,none⟩ = some (.bool M.has):=by rw [<- hwc]; exact (hkx.cell 7).trans c7
 have p8 : (w.alloc (.cells cs 30)).cell? ⟨w.heap.size,8,none⟩ = some (.string M.value):=by rw [<- hwc]; exact (hkx.cell 8).trans c8
 have HKF:=aa fun (W : World) (hb : Below wc.heap.size wc W) => (show W.cell? ⟨w.heap.size,1,none⟩ = some (.int .i64 23) /\ W.cell? ⟨w.heap.size,3,none⟩ = some (.string M.name) /\ W.cell? ⟨w.heap.size,6,none⟩ = some (.string M.kind) /\ W.cell? ⟨w.heap.size,7,none⟩ = some (.bool M.has) /\ W.cell? ⟨w.heap.size,8,none⟩ = some (.string M.value) /\ w.heap.size < W.heap.size from ⟨((af hkx hb).cell 1).trans c1,((af hkx hb).cell 3).trans c3,((af hkx hb).cell 6).trans c6,((af hkx hb).cell 7).trans c7,((af hkx hb).cell 8).trans c8,(af hkx hb).lt⟩)
 have HT_name:=aa fun (W : World) => bf M.name W hsz
 unfold Ms.extT at hl HND |-
 obtain hha | hha : M.has = false \/ M.has = true:=by cases M.has <;> simp
 ·rw [hha] at hl HND p7 HKF |-
  rw [if_neg (by decide)] at hl HND |-
  rw [ai,ar] at hl
  have s1:=aB 2 0 M.kind
  have e1 : (PB.enc (town 0 M.kind)).length = (PB.enc (.mk 2 false 0 M.kind [])).length:=rfl
  have HT_kind:=aa fun (W : World) => t_own 0 M.kind W (by omega) (by omega)
  have HN:=aa hl
  clear hwc hbx hkx hcs hm hfl hat hli hmo hde hco hz_name hz_secret hz_kind hz_value hz_text hz_rdn c1 c3 c6 c7 c8 hl s1 e1 hop hsz hha
  go_enter Tryz.func25,Tryz.ntmps25
  go_wp2_with (first
   | (go_at_call 26; (with_reducible refine (HT_name.out _).mono ?_); rintro e w1 ⟨hb1,x1,rfl,hx1⟩; rw [<- HWC.out] at hb1; have hn1:=hb1; obtain ⟨p1,p3,p6,p7,p8,hlt8⟩:=HKF.out _ hn1; have HX1:=aa hx1; clear hx1 hb1)
   | (go_at_call 29; (with_reducible refine (HT_kind.out _).mono ?_); rintro e w2 ⟨hb2,x2,rfl,hx2⟩; have hn2:=ag hn1 hb2; obtain ⟨p1,p3,p6,p7,p8,hlt8⟩:=HKF.out _ hn2; have HX2:=aa hx2; clear hx2 hb2)
   | (go_at_call 29; go_must (with_reducible refine (HND.out x2 (by rw [HX2.out]; simp only [PB.encs,List.append_nil]) _).mono ?_); rintro e w9 ⟨hb9,r,rfl,hr⟩; have HB9:=aa (HBX.out.trans ((ag hn2 hb9).mono HBX.out.size)); have HR:=aa hr; clear hb9 hr)
   | fail)
  go_ret
  exact ⟨HB9.out,r,rfl,HR.out⟩
 ·rw [hha] at hl HND p7 HKF |-
  rw [if_pos rfl] at hl HND |-
  rw [ai,ai,ar] at hl
  have s1:=aB 2 0 M.kind
  have e1 : (PB.enc (town 0 M.kind)).length = (PB.enc (.mk 2 false 0 M.kind [])).length:=rfl
  have HT_kind:=aa fun (W : World) => t_own 0 M.kind W (by omega) (by omega)
  have s2:=aB 2 1 M.value
  have e2 : (PB.enc (town 1 M.value)).length = (PB.enc (.mk 2 false 1 M.value [])).length:=rfl
  have HT_value:=aa fun (W : World) => t_own 1 M.value W (by omega) (by omega)
  clear s2 e2
  have HN:=aa hl
  clear hwc hbx hkx hcs hm hfl hat hli hmo hde hco hz_name hz_secret hz_kind hz_value hz_text hz_rdn c1 c3 c6 c7 c8 hl s1 e1 hop hsz hha
  go_enter Tryz.func25,Tryz.ntmps25
  go_wp2_with (first
   | (go_at_call 26; (with_reducible refine (HT_name.out _).mono ?_); rintro e w1 ⟨hb1,x1,rfl,hx1⟩; rw [<- HWC.out] at hb1; have hn1:=hb1; obtain ⟨p1,p3,p6,p7,p8,hlt8⟩:=HKF.out _ hn1; have HX1:=aa hx1; clear hx1 hb1)
   | (go_at_call 29; (with_reducible refine (HT_kind.out _).mono ?_); rintro e w2 ⟨hb2,x2,rfl,hx2⟩; have hn2:=ag hn1 hb2; obtain ⟨p1,p3,p6,p7,p8,hlt8⟩:=HKF.out _ hn2; have HX2:=aa hx2; clear hx2 hb2)
   | (go_at_call 29; (with_reducible refine (HT_value.out _).mono ?_); rintro e w3 ⟨hb3,x3,rfl,hx3⟩; have hn3:=ag hn2 hb3; obtain ⟨p1,p3,p6,p7,p8,hlt8⟩:=HKF.out _ hn3; have HX3:=aa hx3; obtain ⟨a3,E3,k3⟩:=cat HX2.out HX3.out (by have hn:=HN.out; (try simp only [List.length_append] at hn |-); omega); clear hx3 hb3)
   | (go_at_call 29; go_must (with_reducible refine (HND.out a3 (by rw [E3.out]; simp only [PB.encs,List.append_assoc,List.append_nil]) _).mono ?_); rintro e w9 ⟨hb9,r,rfl,hr⟩; have HB9:=aa (HBX.out.trans ((ag hn3 hb9).mono HBX.out.size)); have HR:=aa hr; clear hb9 hr)
   | fail)
  go_ret
  exact ⟨HB9.out,r,rfl,HR.out⟩
theorem rop_ans_no (M : Ms) (m : MC) (S : Nat -> Prop) (w : World) (h : MsAt w S M m) (n : Nat) (hop : M.op = n) (hne : n ≠ 0 /\ n ≠ 2 /\ n ≠ 3 /\ n ≠ 4 /\ n ≠ 6 /\ n ≠ 8 /\ n ≠ 10 /\ n ≠ 12 /\ n ≠ 14 /\ n ≠ 16 /\ n ≠ 23) (hle : n <= 30) (hr : 0 <= M.code /\ M.code < 2147483648) (hcond : ¬ (n = 24 /\ aj M.kind = true)) (hl : (PB.encs M.ansT).length < 15000000) :
  Calls Tryz.prog 25 #[.agg m.cells] w (RefS (PB.enc (.mk 1 true n ⟨#[]⟩ M.ansT)) w):=by
 have HND:=aa fun (s : ByteArray) (hs : s.data.toList = PB.encs M.ansT) (W : World) => cK 1 n s M.ansT W (by omega) (by omega) hs (by omega)
 have HNU:=aa fun (W : World) => fe 10 M.code W (by omega) hr
 obtain ⟨f,at',li,mo,de,co,hm,⟨hz_name,hz_secret,hz_kind,hz_value,hz_text,hz_rdn⟩,hfl,hat,hli,hmo,hde,hco⟩:=h
 obtain ⟨cs,hcs⟩ : ∃ cs,cs = m.cells:=⟨_,rfl⟩
 have c1 : cs[1]? = some (.int .i64 M.op):=by rw [hcs,hm]; rfl
 have c3 : cs[3]? = some (.string M.name):=by rw [hcs,hm]; rfl
 have c6 : cs[6]? = some (.string M.kind):=by rw [hcs,hm]; rfl
 have c9 : cs[9]? = some (.int .i64 M.code):=by rw [hcs,hm]; rfl
 have c10 : cs[10]? = some (.string M.text):=by rw [hcs,hm]; rfl
 rw [hop] at c1
 rw [<- hcs]
 obtain ⟨wc,hwc⟩ : ∃ W,W = w.alloc (.cells cs 30):=⟨_,rfl⟩
 have hbx : Below w.heap.size w wc:=by rw [hwc]; exact (Below.refl w.heap.size w).alloc (Nat.le_refl _) _
 have hkx : Bk wc w.heap.size 30 cs:=by rw [hwc]; exact Bk.new w _ cs
 have HBX:=aa hbx
 have HKX:=aa hkx
 have HWC:=aa hwc
 have p1 : (w.alloc (.cells cs 30)).cell? ⟨w.heap.size,1,none⟩ = some (.int .i64 n):=by rw [<- hwc]; exact (hkx.cell 1).trans c1
 have p3 : (w.alloc (.cells cs 30)).cell? ⟨w.heap.size,3,none⟩ = some (.string M.name):=by rw [<- hwc]; exact (hkx.cell 3).trans c3
 have p6 : (w.alloc (.cells cs 30)).cell? ⟨w.heap.size,6,none⟩ = some (.string M.kind):=by rw [<- hwc]; exact (hkx.cell 6).trans c6
 have p9 : (w.alloc (.cells cs 30)).cell? ⟨w.heap.size,9,none⟩ = some (.int .i64 M.code):=by rw [<- hwc]; exact (hkx.cell 9).trans c9
 have p10 : (w.alloc (.cells cs 30)).cell? ⟨w.heap.size,10,none⟩ = some (.string M.text):=by rw [<- hwc]; exact (hkx.cell 10).trans c10
 have HKF:=aa fun (W : World) (hb : Below wc.heap.size wc W) => (show W.cell? ⟨w.heap.size,1,none⟩ = some (.int .i64 n) /\ W.cell? ⟨w.heap.size,3,none⟩ = some (.string M.name) /\ W.cell? ⟨w.heap.size,6,none⟩ = some (.string M.kind) /\ W.cell? ⟨w.heap.size,9,none⟩ = some (.int .i64 M.code) /\ W.cell? ⟨w.heap.size,10,none⟩ = some (.string M.text) /\ w.heap.size < W.heap.size from ⟨((af hkx hb).cell 1).trans c1,((af hkx hb).cell 3).trans c3,((af hkx hb).cell 6).trans c6,((af hkx hb).cell 9).trans c9,((af hkx hb).cell 10).trans c10,(af hkx hb).lt⟩)
 have z0 : ((n : Int) == 0) = false:=by simp; omega
 have z2 : ((n : Int) == 2) = false:=by simp; omega
 have z3 : ((n : Int) == 3) = false:=by simp; omega
 have z4 : ((n : Int) == 4) = false:=by simp; omega
 have z6 : ((n : Int) == 6) = false:=by simp; omega
 have z8 : ((n : Int) == 8) = false:=by simp; omega
 have z10 : ((n : Int) == 10) = false:=by simp; omega
 have z12 : ((n : Int) == 12) = false:=by simp; omega
 have z14 : ((n : Int) == 14) = false:=by simp; omega
 have z16 : ((n : Int) == 16) = false:=by simp; omega
 have z23 : ((n : Int) == 23) = false:=by simp; omega
 have hw9 : (M.op == 24 && aj M.kind) = false:=by
  by_cases h24 : n = 24
  ·have : aj M.kind = false:=by
    cases hf : aj M.kind with
    | false => rfl
    | true => exact absurd ⟨h24,hf⟩ hcond
   rw [this,Bool.and_false]
  ·have : (M.op == 24) = false:=by rw [hop]; simp; omega
   rw [this,Bool.false_and]
 unfold Ms.ansT at hl HND |-
 rw [hw9] at hl HND |-
 rw [if_neg (by decide)] at hl HND |-
 rw [bd,ai,ai,ai,ar] at hl
 have s_name:=aB 0 4 M.name
 have e_name : (PB.enc (tstr M.name)).length = (PB.enc (.mk 0 false 4 M.name [])).length:=rfl
 have HT_name:=aa fun (W : World) => bf M.name W (by omega)
 have s_text:=aB 0 4 M.text
 have e_text : (PB.enc (tstr M.text)).length = (PB.enc (.mk 0 false 4 M.text [])).length:=rfl
 have HT_text:=aa fun (W : World) => bf M.text W (by omega)
 have HN:=aa hl
 have HKS:=aa fun (W : World) (hb : Below wc.heap.size wc W) => (show W.cell? ⟨w.heap.size,9,none⟩ = some (.int .i64 M.code) /\ W.cell? ⟨w.heap.size,10,none⟩ = some (.string M.text) from ⟨((af hkx hb).cell 9).trans c9,((af hkx hb).cell 10).trans c10⟩)
 have HCO:=aa hcond
 clear hwc hbx hkx hcs hm hfl hat hli hmo hde hco hz_name hz_secret hz_kind hz_value hz_text hz_rdn c1 c3 c6 c9 c10 hl hop hw9 hcond hne hle hr s_name e_name s_text e_text
 go_enter Tryz.func25,Tryz.ntmps25
 go_upto_region 10 with (first
  | (go_at_call 26; (with_reducible refine (HT_name.out _).mono ?_); rintro e w1 ⟨hb1,x1,rfl,hx1⟩; rw [<- HWC.out] at hb1; have hn1:=hb1; obtain ⟨p1,p3,p6,p9,p10,hlt8⟩:=HKF.out _ hn1; have HX1:=aa hx1; clear hx1 hb1)
  | fail)
 have HBR:=aa hn1.drew
 go_region_held3 (fun W => W.cell? ⟨w.heap.size,9,none⟩ = some (.int .i64 M.code) /\ W.cell? ⟨w.heap.size,10,none⟩ = some (.string M.text))
  (first | (with_reducible exact HKS.out _ HBR.out) | (with_reducible exact HKS.out _ (by assumption)))
  (first
   | (go_at_call 24; (with_reducible refine (HNU.out _).mono ?_); rintro e w2 ⟨hb2,x2,rfl,hx2⟩; have hn2:=ag HBR.out hb2; have HX2:=aa hx2; obtain ⟨a2,E2,k2⟩:=cat HX2.out HX1.out (by have hn:=HN.out; (try simp only [List.length_append] at hn |-); omega); clear hx2 hb2)
   | (go_at_call 26; (with_reducible refine (HT_text.out _).mono ?_); rintro e w3 ⟨hb3,x3,rfl,hx3⟩; have hn3:=ag hn2 hb3; have HX3:=aa hx3; obtain ⟨a3,E3,k3⟩:=cat E2.out HX3.out (by have hn:=HN.out; (try simp only [List.length_append] at hn |-); omega); clear hx3 hb3)
   | fail)
 all_goals
  obtain ⟨p1,p3,p6,p9,p10,hlt8⟩:=HKF.out _ hn3
  by_cases h24 : n = 24
  ·have hk9 : aj M.kind = false:=by
    cases hf : aj M.kind with
    | false => rfl
    | true => exact absurd ⟨h24,hf⟩ HCO.out
   have y1 : ((n : Int) == 24) = true:=by simp; omega
   clear h24
   have y2:=(aE hk9).1
   have y3:=(aE hk9).2
   clear hk9
   go_wp2_with (first
    | (go_at_call 29; go_must (with_reducible refine (HND.out a3 (by rw [E3.out]; simp only [PB.encs,List.cons_append,List.nil_append,List.append_assoc,List.append_nil]) _).mono ?_); rintro e w9 ⟨hb9,r,rfl,hr⟩; have HB9:=aa (HBX.out.trans ((ag hn3 hb9).mono HBX.out.size)); have HR:=aa hr; clear hb9 hr)
    | fail)
   go_ret
   exact ⟨HB9.out,r,rfl,HR.out⟩
  ·have y1 : ((n : Int) == 24) = false:=by simp; omega
   clear h24
   go_wp2_with (first
    | (go_at_call 29; go_must (with_reducible refine (HND.out a3 (by rw [E3.out]; simp only [PB.encs,List.cons_append,List.nil_append,List.append_assoc,List.append_nil]) _).mono ?_); rintro e w9 ⟨hb9,r,rfl,hr⟩; have HB9:=aa (HBX.out.trans ((ag hn3 hb9).mono HBX.out.size)); have HR:=aa hr; clear hb9 hr)
    | fail)
   go_ret
   exact ⟨HB9.out,r,rfl,HR.out⟩
theorem rop_ans_yes (M : Ms) (m : MC) (S : Nat -> Prop) (w : World) (h : MsAt w S M m) (n : Nat) (hop : M.op = n) (hne : n ≠ 0 /\ n ≠ 2 /\ n ≠ 3 /\ n ≠ 4 /\ n ≠ 6 /\ n ≠ 8 /\ n ≠ 10 /\ n ≠ 12 /\ n ≠ 14 /\ n ≠ 16 /\ n ≠ 23) (hle : n <= 30) (hr : 0 <= M.code /\ M.code < 2147483648) (hcond : n = 24 /\ aj M.kind = true) (hl : (PB.encs M.ansT).length < 15000000) :
  Calls Tryz.prog 25 #[.agg m.cells] w (RefS (PB.enc (.mk 1 true n ⟨#[]⟩ M.ansT)) w):=by
 have HND:=aa fun (s : ByteArray) (hs : s.data.toList = PB.encs M.ansT) (W : World) => cK 1 n s M.ansT W (by omega) (by omega) hs (by omega)
 have HNU:=aa fun (W : World) => fe 10 M.code W (by omega) hr
 obtain ⟨f,at',li,mo,de,co,hm,⟨hz_name,hz_secret,hz_kind,hz_value,hz_text,hz_rdn⟩,hfl,hat,hli,hmo,hde,hco⟩:=h
 obtain ⟨cs,hcs⟩ : ∃ cs,cs = m.cells:=⟨_,rfl⟩
 have c1 : cs[1]? = some (.int .i64 M.op):=by rw [hcs,hm]; rfl
 have c3 : cs[3]? = some (.string M.name):=by rw [hcs,hm]; rfl
 have c6 : cs[6]? = some (.string M.kind):=by rw [hcs,hm]; rfl
 have c9 : cs[9]? = some (.int .i64 M.code):=by rw [hcs,hm]; rfl
 have c10 : cs[10]? = some (.string M.text):=by rw [hcs,hm]; rfl
 rw [hop] at c1
 rw [<- hcs]
 obtain ⟨wc,hwc⟩ : ∃ W,W = w.alloc (.cells cs 30):=⟨_,rfl⟩
 have hbx : Below w.heap.size w wc:=by rw [hwc]; exact (Below.refl w.heap.size w).alloc (Nat.le_refl _) _
 have hkx : Bk wc w.heap.size 30 cs:=by rw [hwc]; exact Bk.new w _ cs
 have HBX:=aa hbx
 have HKX:=aa hkx
 have HWC:=aa hwc
 have p1 : (w.alloc (.cells cs 30)).cell? ⟨w.heap.size,1,none⟩ = some (.int .i64 n):=by rw [<- hwc]; exact (hkx.cell 1).trans c1
 have p3 : (w.alloc (.cells cs 30)).cell? ⟨w.heap.size,3,none⟩ = some (.string M.name):=by rw [<- hwc]; exact (hkx.cell 3).trans c3
 have p6 : (w.alloc (.cells cs 30)).cell? ⟨w.heap.size,6,none⟩ = some (.string M.kind):=by rw [<- hwc]; exact (hkx.cell 6).trans c6
 have p9 : (w.alloc (.cells cs 30)).cell? ⟨w.heap.size,9,none⟩ = some (.int .i64 M.code):=by rw [<- hwc]; exact (hkx.cell 9).trans c9
 have p10 : (w.alloc (.cells cs 30)).cell? ⟨w.heap.size,10,none⟩ = some (.string M.text):=by rw [<- hwc]; exact (hkx.cell 10).trans c10
 have HKF:=aa fun (W : World) (hb : Below wc.heap.size wc W) => (show W.cell? ⟨w.heap.size,1,none⟩ = some (.int .i64 n) /\ W.cell? ⟨w.heap.size,3,none⟩ = some (.string M.name) /\ W.cell? ⟨w.heap.size,6,none⟩ = some (.string M.kind) /\ W.cell? ⟨w.heap.size,9,none⟩ = some (.int .i64 M.code) /\ W.cell? ⟨w.heap.size,10,none⟩ = some (.string M.text) /\ w.heap.size < W.heap.size from ⟨((af hkx hb).cell 1).trans c1,((af hkx hb).cell 3).trans c3,((af hkx hb).cell 6).trans c6,((af hkx hb).cell 9).trans c9,((af hkx hb).cell 10).trans c10,(af hkx hb).lt⟩)
 have z0 : ((n : Int) == 0) = false:=by simp; omega
 have z2 : ((n : Int) == 2) = false:=by simp; omega
 have z3 : ((n : Int) == 3) = false:=by simp; omega
 have z4 : ((n : Int) == 4) = false:=by simp; omega
 have z6 : ((n : Int) == 6) = false:=by simp; omega
 have z8 : ((n : Int) == 8) = false:=by simp; omega
 have z10 : ((n : Int) == 10) = false:=by simp; omega
 have z12 : ((n : Int) == 12) = false:=by simp; omega
 have z14 : ((n : Int) == 14) = false:=by simp; omega
 have z16 : ((n : Int) == 16) = false:=by simp; omega
 have z23 : ((n : Int) == 23) = false:=by simp; omega
 have hw9 : (M.op == 24 && aj M.kind) = true:=by rw [hop,hcond.1,hcond.2]; rfl
 unfold Ms.ansT at hl HND |-
 rw [hw9] at hl HND |-
 rw [if_pos rfl] at hl HND |-
 rw [bd,ai,ai,ai,ar,ai,ar] at hl
 have s_name:=aB 0 4 M.name
 have e_name : (PB.enc (tstr M.name)).length = (PB.enc (.mk 0 false 4 M.name [])).length:=rfl
 have HT_name:=aa fun (W : World) => bf M.name W (by omega)
 have s_text:=aB 0 4 M.text
 have e_text : (PB.enc (tstr M.text)).length = (PB.enc (.mk 0 false 4 M.text [])).length:=rfl
 have HT_text:=aa fun (W : World) => bf M.text W (by omega)
 have s3:=aB 2 10 M.kind
 have e3 : (PB.enc (town 10 M.kind)).length = (PB.enc (.mk 2 false 10 M.kind [])).length:=rfl
 have HT_kind:=aa fun (W : World) => t_own 10 M.kind W (by omega) (by omega)
 clear s3 e3
 have HN:=aa hl
 have HKS:=aa fun (W : World) (hb : Below wc.heap.size wc W) => (show W.cell? ⟨w.heap.size,9,none⟩ = some (.int .i64 M.code) /\ W.cell? ⟨w.heap.size,10,none⟩ = some (.string M.text) from ⟨((af hkx hb).cell 9).trans c9,((af hkx hb).cell 10).trans c10⟩)
 have HCO:=aa hcond
 clear hwc hbx hkx hcs hm hfl hat hli hmo hde hco hz_name hz_secret hz_kind hz_value hz_text hz_rdn c1 c3 c6 c9 c10 hl hop hw9 hcond hne hle hr s_name e_name s_text e_text
 go_enter Tryz.func25,Tryz.ntmps25
 go_upto_region 10 with (first
  | (go_at_call 26; (with_reducible refine (HT_name.out _).mono ?_); rintro e w1 ⟨hb1,x1,rfl,hx1⟩; rw [<- HWC.out] at hb1; have hn1:=hb1; obtain ⟨p1,p3,p6,p9,p10,hlt8⟩:=HKF.out _ hn1; have HX1:=aa hx1; clear hx1 hb1)
  | fail)
 have HBR:=aa hn1.drew
 go_region_held3 (fun W => W.cell? ⟨w.heap.size,9,none⟩ = some (.int .i64 M.code) /\ W.cell? ⟨w.heap.size,10,none⟩ = some (.string M.text))
  (first | (with_reducible exact HKS.out _ HBR.out) | (with_reducible exact HKS.out _ (by assumption)))
  (first
   | (go_at_call 24; (with_reducible refine (HNU.out _).mono ?_); rintro e w2 ⟨hb2,x2,rfl,hx2⟩; have hn2:=ag HBR.out hb2; have HX2:=aa hx2; obtain ⟨a2,E2,k2⟩:=cat HX2.out HX1.out (by have hn:=HN.out; (try simp only [List.length_append] at hn |-); omega); clear hx2 hb2)
   | (go_at_call 26; (with_reducible refine (HT_text.out _).mono ?_); rintro e w3 ⟨hb3,x3,rfl,hx3⟩; have hn3:=ag hn2 hb3; have HX3:=aa hx3; obtain ⟨a3,E3,k3⟩:=cat E2.out HX3.out (by have hn:=HN.out; (try simp only [List.length_append] at hn |-); omega); clear hx3 hb3)
   | fail)
 all_goals
  obtain ⟨p1,p3,p6,p9,p10,hlt8⟩:=HKF.out _ hn3
  have y1 : ((n : Int) == 24) = true:=by have:=HCO.out.1; simp; omega
  have y2:=aU HCO.out.2
  go_wp2_with (first
   | (go_at_call 29; (with_reducible refine (HT_kind.out _).mono ?_); rintro e w4 ⟨hb4,x4,rfl,hx4⟩; have hn4:=ag hn3 hb4; obtain ⟨p1,p3,p6,p9,p10,hlt8⟩:=HKF.out _ hn4; have HX4:=aa hx4; obtain ⟨a4,E4,k4⟩:=cat E3.out HX4.out (by have hn:=HN.out; (try simp only [List.length_append] at hn |-); omega); clear hx4 hb4)
   | (go_at_call 29; go_must (with_reducible refine (HND.out a4 (by rw [E4.out]; simp only [PB.encs,List.cons_append,List.nil_append,List.append_assoc,List.append_nil]) _).mono ?_); rintro e w9 ⟨hb9,r,rfl,hr⟩; have HB9:=aa (HBX.out.trans ((ag hn4 hb9).mono HBX.out.size)); have HR:=aa hr; clear hb9 hr)
   | fail)
  go_ret
  exact ⟨HB9.out,r,rfl,HR.out⟩
theorem rop_any (M : Ms) (m : MC) (S : Nat -> Prop) (w : World) (h : MsAt w S M m) (hr : M.ranged = true) (hw : M.wt <= 40000) (hf : M.filter.wt <= 10000) :
  Calls Tryz.prog 25 #[.agg m.cells] w (RefS (PB.enc M.opT) w):=by
 have hlp:=partsT_len M
 have hlo:=opT_len M
 obtain ⟨s1,s2,⟨s3,s3b⟩,⟨s4,s4b⟩,s5⟩:=Ms.wt_small hw
 have hname : M.name.size <= 40000:=by unfold Ms.wt at hw; omega
 have hops:=M.ops hr
 unfold Ms.opT at hlo |-
 by_cases h2 : M.op = 2
 ·rw [if_pos h2]; exact rop_unbind M m S w h h2
 rw [if_neg h2] at hlo |-
 by_cases h10 : M.op = 10
 ·rw [if_pos h10] at hlo |-; exact rop_delete M m S w h h10 (by omega)
 rw [if_neg h10] at hlo |-
 unfold Ms.ranged at hr
 by_cases h16 : M.op = 16
 ·rw [if_pos h16]
  rw [if_neg (by omega),if_neg (by omega),if_neg (by omega),if_neg (by omega),if_pos h16] at hr
  have:=dG hr
  exact rop_abandon M m S w h h16 (by omega)
 rw [if_neg h16] at hlo |-
 unfold Ms.partsT at hlp |-
 by_cases h0 : M.op = 0
 ·rw [if_pos h0] at hr hlp |-
  simp only [Bool.and_eq_true] at hr
  have:=dG hr.1
  rw [show M.op = 0 from h0]
  exact rop_bind M m S w h h0 (by omega) (by omega)
 rw [if_neg h0] at hr hlp |-
 by_cases h3 : M.op = 3
 ·rw [if_pos h3] at hr hlp |-
  simp only [Bool.and_eq_true] at hr
  have g1:=dG hr.1
  have g2:=dG hr.2.1
  have g3:=dG hr.2.2.1
  have g4:=dG hr.2.2.2.1
  have hc : 0 <= M.filter.cnt 1 40:=by simpa [Fl.right] using hr.2.2.2.2
  rw [show M.op = 3 from h3]
  refine rop_search M m S w h h3 ⟨by omega,by omega,by omega,by omega⟩ (rfil_any M.filter 1 40 hc (Fl.wt_slim _ hf) ?_) (by omega) (by omega)
  have:=fS M.filter
  omega
 rw [if_neg h3] at hr hlp |-
 by_cases h4 : M.op = 4 \/ M.op = 8
 ·rw [if_pos h4] at hlp |-
  rcases h4 with h4 | h4
  ·rw [show M.op = 4 from h4]
   exact rop_ent4 M m S w h h4 (by omega) (fun d hd => by have:=s3b d hd; omega) (by omega)
  ·rw [show M.op = 8 from h4]
   exact rop_ent8 M m S w h h4 (by omega) (fun d hd => by have:=s3b d hd; omega) (by omega)
 rw [if_neg h4] at hlp |-
 by_cases h6 : M.op = 6
 ·rw [if_pos h6] at hr hlp |-
  rw [show M.op = 6 from h6]
  refine rop_mod M m S w h h6 (fun x hx => ?_) (by omega) (fun d hd => by have:=s4b d hd; omega) (by omega)
  have:=dG (List.all_eq_true.1 hr x hx)
  omega
 rw [if_neg h6] at hr hlp |-
 by_cases h12 : M.op = 12
 ·rw [if_pos h12] at hr hlp |-
  rw [show M.op = 12 from h12]
  exact rop_ren M m S w h h12 (by simpa using hr) (by omega)
 rw [if_neg h12] at hr hlp |-
 rw [if_neg h16] at hr
 by_cases h14 : M.op = 14
 ·rw [if_pos h14] at hlp |-
  rw [show M.op = 14 from h14]
  exact rop_cmp M m S w h h14 (by omega)
 rw [if_neg h14] at hlp |-
 by_cases h23 : M.op = 23
 ·rw [if_pos h23] at hlp |-
  rw [show M.op = 23 from h23]
  exact rop_ext M m S w h h23 (by omega) (by omega)
 rw [if_neg h23] at hr hlp |-
 rw [if_neg (by omega)] at hr
 simp only [Bool.and_eq_true] at hr
 have g1:=dG hr.2
 have hop : 0 <= M.op /\ M.op <= 30:=by
  have ha:=hr.1
  simp [aD] at ha
  omega
 obtain ⟨n,hn⟩ : ∃ n : Nat,M.op = n:=⟨M.op.toNat,by omega⟩
 rw [show M.op = n from hn]
 by_cases hc : n = 24 /\ aj M.kind = true
 ·exact rop_ans_yes M m S w h n hn (by omega) (by omega) (by omega) hc (by omega)
 ·exact rop_ans_no M m S w h n hn (by omega) (by omega) (by omega) hc (by omega)
theorem cu (c g : Int) (s : ByteArray) (d : Nat) (hd : d <= 16) (hc : 0 <= c /\ c <= 3) (hg : 0 <= g /\ g <= 30) : (Tl.mk c false g s []).right d = true:=by
 unfold Tl.right
 rw [if_neg (by omega)]
 rfl
theorem bI (c g : Int) (ks : List Tl) (d : Nat) (hd : d <= 16) (hc : 0 <= c /\ c <= 3) (hg : 0 <= g /\ g <= 30) (hk : Tl.rights ks (d + 1) = true) : (Tl.mk c true g ⟨#[]⟩ ks).right d = true:=by
 unfold Tl.right
 rw [if_neg (by omega),if_pos rfl,hk]
 simp [ByteArray.toList_eq]
theorem am {k : Tl} {ks : List Tl} {d : Nat} (h : k.right d = true) (hk : Tl.rights ks d = true) : Tl.rights (k :: ks) d = true:=by
 unfold Tl.rights
 rw [h,hk]
 rfl
theorem av (d : Nat) : Tl.rights [] d = true:=by unfold Tl.rights; rfl
theorem bS {α : Type} (f : α -> Tl) (d : Nat) : ∀ (l : List α),(∀ x ∈ l,(f x).right d = true) -> Tl.rights (l.map f) d = true
 | [],_ => av d
 | x :: l,h => am (h x (by simp)) (bS f d l fun y hy => h y (by simp [hy]))
theorem cr (d : Nat) : ∀ (a b : List Tl),Tl.rights a d = true -> Tl.rights b d = true -> Tl.rights (a ++ b) d = true
 | [],b,_,hb => hb
 | x :: a,b,ha,hb => by
  unfold Tl.rights at ha
  simp only [Bool.and_eq_true] at ha
  exact am ha.1 (cr d a b ha.2 hb)
theorem aG (s : ByteArray) (d : Nat) (hd : d <= 16) : (tstr s).right d = true:=cu 0 4 s d hd (by omega) (by omega)
theorem bR (g n : Int) (d : Nat) (hd : d <= 16) (hg : 0 <= g /\ g <= 30) : (tnum g n).right d = true:=cu 0 g _ d hd (by omega) hg
theorem es (q : Bool) (d : Nat) (hd : d <= 16) : (bx q).right d = true:=cu 0 1 _ d hd (by omega) (by omega)
theorem bH (g : Int) (s : ByteArray) (d : Nat) (hd : d <= 16) (hg : 0 <= g /\ g <= 30) : (town g s).right d = true:=cu 2 g s d hd (by omega) hg
theorem bm (ks : List Tl) (d : Nat) (hd : d <= 16) (hk : Tl.rights ks (d + 1) = true) : (aI ks).right d = true:=bI 0 16 ks d hd (by omega) (by omega) hk
theorem tattr_right (n : ByteArray) (ss : List ByteArray) (d : Nat) (hd : d <= 13) : (cv n ss).right d = true :=
 bm _ d (by omega) (am (aG n (d + 1) (by omega)) (am (bI 0 17 _ (d + 1) (by omega) (by omega) (by omega) (bS tstr _ ss fun s _ => aG s _ (by omega))) (av _)))
theorem tpieces_right (f : ByteArray) (any : List ByteArray) (l : ByteArray) (d : Nat) (hd : d <= 16) : Tl.rights (aF f any l) d = true:=by
 unfold aF
 refine cr d _ _ ?_ (cr d _ _ (bS _ d any fun s _ => bH 1 s d hd (by omega)) ?_)
 ·split
  ·exact am (bH 0 f d hd (by omega)) (av d)
  ·exact av d
 ·split
  ·exact am (bH 2 l d hd (by omega)) (av d)
  ·exact av d
mutual
theorem ftree_right : ∀ (f : Fl) (e x : Int) (d : Nat),0 <= f.cnt e x -> (d : Int) <= e + 2 -> (a8 f).right d = true
 | .mk k a v g any l kids,e,x,d,h,hd => by
  have h8 : e <= 8:=by
   unfold Fl.cnt at h
   by_cases hc : x - 1 < 0 \/ 8 < e \/ Fl.one (.mk k a v g any l kids) = false
   ·rw [if_pos hc] at h; omega
   ·omega
  obtain ⟨ho,hk⟩:=Fl.cnt_one h
  have ih:=fC kids (e + 1) (x - 1) (d + 1) hk (by omega)
  simp only [Fl.one] at ho
  unfold a8
  by_cases h01 : k = 0 \/ k = 1
  ·rw [if_pos (by omega)]
   exact bI 2 k _ d (by omega) (by omega) (by omega) ih
  rw [if_neg h01] at ho
  by_cases h2 : k = 2
  ·rw [if_pos (by omega)]
   exact bI 2 k _ d (by omega) (by omega) (by omega) ih
  rw [if_neg h2] at ho
  rw [if_neg (by omega)]
  by_cases h3 : k = 3 \/ k = 5 \/ k = 6 \/ k = 8
  ·rw [if_neg (by omega),if_neg (by omega)]
   exact bI 2 k _ d (by omega) (by omega) (by omega) (am (aG a _ (by omega)) (am (aG v _ (by omega)) (av _)))
  rw [if_neg h3] at ho
  by_cases h7 : k = 7
  ·rw [if_pos h7]
   exact bH 7 a d (by omega) (by omega)
  rw [if_neg h7] at ho |-
  by_cases h4 : k = 4
  ·rw [if_pos h4]
   exact bI 2 4 _ d (by omega) (by omega) (by omega) (am (aG a _ (by omega)) (am (bm _ _ (by omega) (tpieces_right g any l _ (by omega))) (av _)))
  ·rw [if_neg h4] at ho; cases ho
theorem fC : ∀ (ks : List Fl) (e x : Int) (d : Nat),0 <= Fl.cnts ks e x -> (d : Int) <= e + 2 -> Tl.rights (cg ks) d = true
 | [],_,_,d,_,_ => by unfold cg; exact av d
 | k :: ks,e,x,d,h,hd => by
  unfold Fl.cnts at h
  by_cases hn : k.cnt e x < 0
  ·rw [if_pos hn] at h; omega
  ·rw [if_neg hn] at h
   unfold cg
   exact am (ftree_right k e x d (by omega) hd) (fC ks e _ d h hd)
end
theorem partsT_right (M : Ms) (hr : M.ranged = true) : Tl.rights M.partsT 3 = true:=by
 have hr':=hr
 unfold Ms.ranged at hr
 unfold Ms.partsT
 by_cases h0 : M.op = 0
 ·rw [if_pos h0]
  unfold Ms.bindT
  refine am (bR _ _ _ (by omega) (by omega)) (am (aG _ _ (by omega)) (am ?_ (av _)))
  split
  ·refine bI 2 3 _ 3 (by omega) (by omega) (by omega) (am (aG _ _ (by omega)) ?_)
   split
   ·exact am (aG _ _ (by omega)) (av _)
   ·exact av _
  ·exact bH _ _ _ (by omega) (by omega)
 rw [if_neg h0] at hr |-
 by_cases h3 : M.op = 3
 ·rw [if_pos h3] at hr |-
  simp only [Bool.and_eq_true] at hr
  have hc : 0 <= M.filter.cnt 1 40:=by simpa [Fl.right] using hr.2.2.2.2
  unfold Ms.seaT
  exact am (aG _ _ (by omega)) (am (bR _ _ _ (by omega) (by omega)) (am (bR _ _ _ (by omega) (by omega)) (am (bR _ _ _ (by omega) (by omega)) (am (bR _ _ _ (by omega) (by omega)) (am (es _ _ (by omega)) (am (ftree_right _ 1 40 3 hc (by omega)) (am (bm _ _ (by omega) (bS tstr _ _ fun s _ => aG s _ (by omega))) (av _))))))))
 rw [if_neg h3]
 by_cases h4 : M.op = 4 \/ M.op = 8
 ·rw [if_pos h4]
  unfold Ms.entT
  exact am (aG _ _ (by omega)) (am (bm _ _ (by omega) (bS tat _ _ fun a _ => tattr_right _ _ _ (by omega))) (av _))
 rw [if_neg h4]
 by_cases h6 : M.op = 6
 ·rw [if_pos h6]
  unfold Ms.modT
  exact am (aG _ _ (by omega)) (am (bm _ _ (by omega) (bS tmod _ _ fun a _ => bm _ _ (by omega) (am (bR _ _ _ (by omega) (by omega)) (am (tattr_right _ _ _ (by omega)) (av _))))) (av _))
 rw [if_neg h6]
 by_cases h12 : M.op = 12
 ·rw [if_pos h12]
  unfold Ms.renT
  exact cr 3 _ _ (am (aG _ _ (by omega)) (am (aG _ _ (by omega)) (am (es _ _ (by omega)) (av _)))) (bS (town 0) _ _ fun s _ => bH 0 s _ (by omega) (by omega))
 rw [if_neg h12]
 by_cases h14 : M.op = 14
 ·rw [if_pos h14]
  unfold Ms.cmpT
  exact am (aG _ _ (by omega)) (am (bm _ _ (by omega) (am (aG _ _ (by omega)) (am (aG _ _ (by omega)) (av _)))) (av _))
 rw [if_neg h14]
 by_cases h23 : M.op = 23
 ·rw [if_pos h23]
  unfold Ms.extT
  refine am (bH _ _ _ (by omega) (by omega)) ?_
  split
  ·exact am (bH _ _ _ (by omega) (by omega)) (av _)
  ·exact av _
 rw [if_neg h23]
 unfold Ms.ansT
 refine cr 3 _ _ (am (bR _ _ _ (by omega) (by omega)) (am (aG _ _ (by omega)) (am (aG _ _ (by omega)) (av _)))) ?_
 split
 ·exact am (bH _ _ _ (by omega) (by omega)) (av _)
 ·exact av _
theorem opT_right (M : Ms) (hr : M.ranged = true) : M.opT.right 2 = true:=by
 unfold Ms.opT
 by_cases h2 : M.op = 2
 ·rw [if_pos h2]; exact cu _ _ _ _ (by omega) (by omega) (by omega)
 rw [if_neg h2]
 by_cases h10 : M.op = 10
 ·rw [if_pos h10]; exact cu _ _ _ _ (by omega) (by omega) (by omega)
 rw [if_neg h10]
 by_cases h16 : M.op = 16
 ·rw [if_pos h16]; exact cu _ _ _ _ (by omega) (by omega) (by omega)
 rw [if_neg h16]
 have hop : 0 <= M.op /\ M.op <= 30:=by
  rcases M.ops hr with h | h | h | h | h | h | h | h | h | h | h | ⟨ha,-⟩
  iterate 11 · omega
  simp [aD] at ha
  omega
 exact bI 1 M.op _ 2 (by omega) (by omega) hop (partsT_right M hr)
theorem Ms.tree_right (M : Ms) (hr : M.ranged = true) : M.tree.right 1 = true:=by
 unfold Ms.tree
 refine bm _ 1 (by omega) (cr 2 _ _ (am (bR _ _ _ (by omega) (by omega)) (am (opT_right M hr) (av _))) ?_)
 split
 ·exact av _
 ·refine am (bI 2 0 _ 2 (by omega) (by omega) (by omega) (bS tctl _ _ fun c _ => ?_)) (av _)
  unfold tctl
  refine bm _ _ (by omega) (am (aG _ _ (by omega)) (cr _ _ _ ?_ ?_))
  ·split
   ·exact am (es _ _ (by omega)) (av _)
   ·exact av _
  ·split
   ·exact am (aG _ _ (by omega)) (av _)
   ·exact av _
theorem Ms.encE_tree (M : Ms) (hr : M.ranged = true) : encE M.tree = if 8192 < (PB.enc M.tree).length then 5 else 0:=by
 unfold encE
 rw [M.tree_right hr,if_neg (by simp)]
def unb : Tl:=aI [tnum 2 3,.mk 1 false 2 ⟨#[]⟩ []]
theorem base_right : (Ms.base 3 2).right = true:=by decide +kernel
theorem unb_E : encE unb = 0:=by decide +kernel
theorem unb_S : encS unb = ⟨#[48,5,2,1,3,66,0]⟩:=by decide +kernel
theorem unb_P : decP ⟨#[48,5,2,1,3,66,0]⟩ = some (Ms.base 3 2):=by kernel_rfl
theorem base_at (w : World) (S : Nat -> Prop) : MsAt w S (Ms.base 3 2) (MC.base 3 2) :=
 MsAt.flat rfl rfl rfl rfl rfl rfl ⟨by decide,by decide,by decide,by decide,by decide,by decide⟩
theorem enc_unb (w : World) (ha : AnsAt w) : Calls Tryz.prog 7 #[.agg (MC.base 3 2).cells] w (fun e w' => Below w.heap.size w w' /\ e = .returned (.tuple #[.string ⟨#[48,5,2,1,3,66,0]⟩,.int .i64 0])):=by
 have h:=encode_bare (Ms.base 3 2) (MC.base 3 2) (fun _ => True) (.mk 1 false 2 ⟨#[]⟩ []) w (base_at w _) ha base_right rfl ⟨by decide,by decide⟩ (fun W hb => dX _ _ _ W (base_at W (fun _ => True)) rfl)
 refine h.mono ?_
 rintro e w' ⟨hb,rfl⟩
 refine ⟨hb,?_⟩
 show Ending.returned (.tuple #[.string (encS unb),.int .i64 (encE unb)]) = _
 rw [unb_E,unb_S]
 rfl
theorem dec_unb (w : World) (ha : AnsAt w) : Calls Tryz.prog 11 #[.string ⟨#[48,5,2,1,3,66,0]⟩] w (fun e w' => Below w.heap.size w w' /\ ∃ m : MC,e = .returned (.tuple #[.agg m.cells,.int .i64 0]) /\ MsAt w' (fun x => w.heap.size <= x) (Ms.base 3 2) m):=by
 refine (mdecode_any _ w (by decide) ha).mono ?_
 rintro e w' ⟨hb,h⟩
 rw [unb_P] at h
 rcases h with ⟨h,_⟩ | ⟨M,m,h,rfl,hm⟩
 ·cases h
 ·obtain rfl:=Option.some.inj h
  exact ⟨hb,m,rfl,hm⟩
theorem dec_unb' (w : World) (ha : AnsAt w) : Calls Tryz.prog 11 #[.string ⟨#[48,5,2,1,3,66,0]⟩] w (fun e w' => Below w.heap.size w w' /\ ∃ ms : Array Value,e = .returned (.tuple #[.agg ms,.int .i64 0]) /\ ms.size = 31 /\ ms.all (·.oneCell') = true ∧
  ∀ W,Off [w'.heap.size] (w'.alloc mzero) W -> Calls Tryz.prog 12 #[.agg ms,.agg (MC.base 3 2).cells] W (aq true W)):=by
 refine (dec_unb w ha).mono ?_
 rintro e w' ⟨hb,m,rfl,hm⟩
 refine ⟨hb,m.cells,rfl,cJ m,cF m,fun W ho => ?_⟩
 refine same_flat 3 2 m (MC.base 3 2) (fun _ => True) (fun _ => True) W (hm.keep ?_ (fun x _ hlt => ?_) (fun _ _ _ => trivial)) (base_at W _)
 ·have:=ho.size; simp at this; omega
 ·rw [ho.block x (by simp; omega) (by simp; omega)]
  exact (((Below.refl w'.heap.size w').alloc (Nat.le_refl _) mzero).block x hlt)
theorem awake26 (w : World) (ha : AnsAt w) : Calls Tryz.prog 5 #[] w (Holds w):=by
 have H1:=aa (enc_unb w ha)
 have H2:=aa (fun W hb => dec_unb' W (ha.below hb))
 have HS:=aa aT
 clear ha
 go_enter Tryz.func5,Tryz.ntmps5
 go_wp2_with (first
  | (refine ap rfl 30 (.tmp 3) (.tmp 13) rfl w2.heap.size rfl ms rfl 30 MC.zero.cells (Bk.new w2 _ _) HSZ.out.symm (by rw [HSZ.out]; exact HS.out) HON.out (fun w3 hbk3 hof3 => ?_); have HBK3:=aa hbk3; have HOF3:=aa hof3; clear hbk3 hof3)
  | (refine bq rfl 30 (.tmp 3) rfl w2.heap.size rfl 30 ms (0,0) _ HBK3.out Tryz.underlying30 rfl (by rw [HSZ.out]; exact HS.out) ?_)
  | (go_at_call 7; refine H1.out.mono ?_; rintro e w1 ⟨hb1,rfl⟩)
  | (go_at_call 11; refine (H2.out _ hb1).mono ?_; rintro e w2 ⟨hb2,ms,rfl,hsz,hone,hsm⟩; have HSZ:=aa hsz; have HON:=aa hone; have HSM:=aa hsm; clear hsz hone hsm)
  | (go_at_call 12; refine (HSM.out _ HOF3.out).mono ?_; rintro e w4 ⟨rfl,hb4⟩)
  | fail)
 go_ret
 have h2:=hb1.trans (hb2.mono hb1.size)
 have h3:=h2.alloc h2.size mzero
 have h4:=h3.trans (HOF3.out.below (B:=w.heap.size) h3.size (by simpa using h2.size))
 exact ⟨rfl,h4.trans (hb4.mono h4.size)⟩
def fp (M : Ms) (w : World) (e : Ending) (w' : World) : Prop :=
 Below w.heap.size w w' /\ ((M.right = true /\ e = .returned (.tuple #[.string (encS M.tree),.int .i64 (encE M.tree)])) \/ (M.right = false /\ e = .returned (.tuple #[.string ⟨#[]⟩,.int .i64 4])))
theorem encode_no (M : Ms) (m : MC) (S : Nat -> Prop) (w : World) (h : MsAt w S M m) (ha : AnsAt w) (hr : M.right = false) :
  Calls Tryz.prog 7 #[.agg m.cells] w (fun e w' => Below w.heap.size w w' /\ e = .returned (.tuple #[.string ⟨#[]⟩,.int .i64 4])):=by
 have HS:=aa aT
 obtain ⟨cs,hcs⟩ : ∃ cs,cs = m.cells:=⟨_,rfl⟩
 have HSZ : Hid (cs.size = 31):=by rw [hcs]; rfl
 rw [<- hcs]
 have hB:=(Below.refl w.heap.size w).alloc (Nat.le_refl _) (.cells cs 30)
 have HB:=aa hB
 have HBK:=aa (Bk.new w 30 cs)
 have HRT:=aa (show Calls Tryz.prog 9 #[.agg cs] (w.alloc (.cells cs 30)) (aq false _) by
  have:=ca M m S _ (h.keep hB.size (fun x _ hlt => hB.block x hlt) (fun _ h _ => h)) (ha.below hB); rwa [hr,<- hcs] at this)
 clear hcs hB h ha hr
 go_enter Tryz.func7,Tryz.ntmps7
 go_wp2_with (first
  | (refine wpList_load_row rfl 30 (.tmp 1) rfl w.heap.size rfl 30 cs (0,0) _ HBK.out Tryz.underlying30 rfl (by rw [HSZ.out]; exact HS.out) ?_)
  | (go_at_call 9; refine HRT.out.mono ?_; rintro e w1 ⟨rfl,hb1⟩; have HB1:=aa (HB.out.trans (hb1.mono HB.out.size)); clear hb1)
  | fail)
 go_ret2
 exact ⟨HB1.out,rfl⟩
theorem mencode_any (M : Ms) (m : MC) (S : Nat -> Prop) (w : World) (h : MsAt w S M m) (ha : AnsAt w) (hs : M.small) : Calls Tryz.prog 7 #[.agg m.cells] w (fp M w):=by
 cases hr : M.right with
 | true => exact (encode_right M m S w h ha hr hs).mono fun e w' ⟨h1,h2⟩ => ⟨h1,.inl ⟨hr,h2⟩⟩
 | false => exact (encode_no M m S w h ha hr).mono fun e w' ⟨h1,h2⟩ => ⟨h1,.inr ⟨hr,h2⟩⟩
theorem enc_ok {t : Tl} (h : encE t = 0) : t.right 1 = true /\ (PB.enc t).length <= 8192 /\ (encS t).data.toList = PB.enc t /\ (encS t).size = (PB.enc t).length:=by
 have h':=h
 unfold encE at h
 cases hr : t.right 1 with
 | false => rw [if_pos hr] at h; cases h
 | true =>
  rw [if_neg (by simp [hr])] at h
  by_cases hl : 8192 < (PB.enc t).length
  ·rw [if_pos hl] at h; cases h
  ·refine ⟨rfl,by omega,?_,?_⟩
   ·unfold encS; rw [if_pos h']
   ·unfold encS; rw [if_pos h']; rfl
theorem tree_list (M : Ms) : M.tree.isB 0 16 true = true:=by unfold Ms.tree aI Tl.isB; rfl
theorem behind_some (M : Ms) (hr : M.right = true) (h : encE M.tree = 0) : decP (encS M.tree) = some M:=by
 obtain ⟨h1,h2,h3,h4⟩:=enc_ok h
 have hd:=PB.dec_enc M.tree h1 h2 []
 rw [List.append_nil] at hd
 unfold decP
 rw [h3,hd,if_neg]
 ·exact M.back hr
 ·simp only [h4,ne_eq,not_true_eq_false,tree_list,or_self]
  simp
def SameOk : Prop:=∀ (M : Ms) (m1 m2 : MC) (S1 S2 : Nat -> Prop) (w : World),MsAt w S1 M m1 -> MsAt w S2 M m2 -> Calls Tryz.prog 12 #[.agg m1.cells,.agg m2.cells] w (aq true w)
theorem decode_same (hsame : SameOk) (s : ByteArray) (w : World) (hs : s.size <= 1000000) (ha : AnsAt w) {M : Ms} (h : decP s = some M) : Calls Tryz.prog 11 #[.string s] w (fun e w' => Below w.heap.size w w' /\ ∃ ms : Array Value,e = .returned (.tuple #[.agg ms,.int .i64 0]) /\ ms.size = 31 /\ ms.all (·.oneCell') = true ∧
  ∀ W m S,Off [w'.heap.size] (w'.alloc mzero) W -> MsAt W S M m -> Calls Tryz.prog 12 #[.agg ms,.agg m.cells] W (aq true W)):=by
 refine (mdecode_any s w hs ha).mono ?_
 rintro e w' ⟨hb,hh⟩
 rcases hh with ⟨hn,-⟩ | ⟨M',m',hM,rfl,hm⟩
 ·rw [h] at hn; cases hn
 ·rw [h] at hM
  obtain rfl:=Option.some.inj hM
  refine ⟨hb,m'.cells,rfl,cJ m',cF m',fun W m S ho h2 => ?_⟩
  refine hsame M m' m (fun _ => True) S W (hm.keep ?_ (fun x _ hlt => ?_) (fun _ _ _ => trivial)) h2
  ·have:=ho.size; simp at this; omega
  ·rw [ho.block x (by simp; omega) (by simp; omega)]
   exact (((Below.refl w'.heap.size w').alloc (Nat.le_refl _) mzero).block x hlt)
end Go.Proofs.YtbiglfpikfjbpaaGreatDoor
