import Derived.Test.YtjbcbnemdhbhbaaGreatDoorA1
import Derived.LoopN
import Derived.BigRegion
import Derived.Test.YtjbcbnemdhbhbaaGreatDoorA22
import Derived.Defers
import Derived.Test.YtjbcbnemdhbhbaaGreatDoorA13
import Derived.Test.YtjbcbnemdhbhbaaGreatDoorA6
set_option maxRecDepth 100000
set_option linter.unusedVariables false
set_option linter.unusedSimpArgs false
set_option maxHeartbeats 40000000
open Go renaming Calls→aaf,Value→No,World→AI,info_parts→ach,maxLen→abj,rounds_succ→abF,wp_loop_rounds→abP
open Go.Ending renaming returned→adw
open Go.Instr renaming makeFunc→agE
open Go.Lib renaming hid→sh
open Go.RowKit renaming Below→IT
open Go.RowKit.Below renaming refl→BY
open List renaming length_append→AT,mem_cons→OF,mem_singleton→IN,not_mem_nil→acu
open Nat renaming le_refl→AS,le_trans→abw
namespace Go.Proofs.YtjbcbnemdhbhbaaGreatDoor
open Go.Proofs.Tryz
open Go.RowKit
theorem Fl(v:No)(w:AI):aaf prog 73 #[v,.int .i64 0] w (fun e w'=>e= .returned (.tuple #[.slice none 0 0,.int .i64 0])/\w=w'):=by
 go_enter func73,ntmps73
 go_wp2_with fail
 go_ret2
 exact⟨rfl,rfl⟩
theorem xl(T:TypeId)(v:No)(w:AI):aaf prog 75 #[.iface T v,.int .i64 0] w (fun e w'=>e= .returned (.pointer (some ⟨w.heap.size,0,none⟩))/\Bk w' w.heap.size 215 #[.iface T v,.int .i64 0,.slice none 0 0]/\IT w.heap.size w w'):=by
 go_enter func75,ntmps75
 go_wp2_with fail
 go_ret
 exact⟨rfl,Bk.new w _ _,(BY _ w).alloc (AS _) _⟩
theorem qR(v:No)(c:Nat)(w:AI)(h:Bk w c 215 #[v,.int .i64 0,.slice none 0 0]):aaf prog 76 #[.pointer (some ⟨c,0,none⟩)] w (fun e w'=>e= .returned (.tuple #[.bool false,.int .i64 0])/\ah [c] w w'):=by
 have HB:Hid (∀f:No,aaf prog 137 #[.pointer (some ⟨c,0,none⟩),f] w (fun e w'=>e= .returned (.tuple #[.bool false,.int .i64 0])/\ah [c] w w')):=fun f=>by
  have c1:=h.cell 1;have c2:=h.cell 2;have f2:=h.frozen 2;have lc:=h.lt;clear h;go_enter func137,ntmps137
  go_wp2_with fail
  go_ret2
  exact⟨rfl,(ah.refl [c] w).setCell (p:=⟨c,2,none⟩) (.inl (by simp)) _⟩
 clear h;go_enter func76,ntmps76
 go_wp2_with fail
 refine(HB.out _).mono ?_;rintro e w1 ⟨rfl,hb⟩;have HE:=sh hb;clear hb;go_wp2_with fail
 go_ret2
 exact⟨rfl,HE.out⟩
theorem xD(w:AI):aaf prog 136 #[.slice none 0 0,.int .i64 0] w (fun e w'=>e= .returned (.slice none 0 0)/\w=w'):=by
 go_enter func136,ntmps136
 go_wp2_with fail
 go_ret
 exact⟨rfl,rfl⟩
theorem AD(k:Nat)(w:AI)(h:Bk w k 51 #[.slice none 0 0,.slice none 0 0]):aaf prog 74 #[.slice (some ⟨k,0,none⟩) 2 2] w (fun e w'=>e= .returned (.slice none 0 0)/\IT w.heap.size w w'):=by
 have c0:=h.cell 0;have c1:=h.cell 1;have lk:=h.lt;have HG:=sh fun(W:AI)=>xD W;clear h;go_enter func74,ntmps74
 go_wp2_with fail
 refine abP 4 ?_;rw[abF];go_wp2_with fail
 rw[abF];go_wp2_with fail
 rw[abF];go_wp2_with fail
 refine(HG.out _).mono ?_;rintro e w1 ⟨rfl,rfl⟩;go_wp2_with fail
 refine abP 4 ?_;rw[abF];go_wp2_with fail
 rw[abF];go_wp2_with fail
 rw[abF];go_wp2_with fail
 go_ret
 exact⟨rfl,BY _ _⟩
theorem Nv(w:AI):aaf prog 142 #[.int .u64 0] w (fun e w'=>(∃n:Int,e= .returned (.int .i64 n))/\w=w'):=by
 have H:Hid (∀W,aaf prog 200 #[.int .u64 0] W (fun e w'=>(∃n:Int,e= .returned (.int .i64 n))/\W=w')):=fun W=>by
  go_enter func200,ntmps200
  go_wp2_with fail
  go_ret
  exact⟨⟨_,rfl⟩,rfl⟩
 go_enter func142,ntmps142
 go_wp2_with fail
 refine(H.out _).mono ?_;rintro e w1 ⟨⟨n,rfl⟩,rfl⟩;go_wp2_with fail
 go_ret
 exact⟨⟨_,rfl⟩,rfl⟩
theorem JT(w:AI):aaf prog 79 #[.slice none 0 0] w (fun e w'=>e= .returned (.tuple #[])/\IT w.heap.size w w'):=by
 have HL:=sh fun(W:AI)=>Nv W;have HI:Hid (∀W,aaf prog 190 #[.slice none 0 0,.int .i64 0,.int .i64 0] W (fun e w'=>e= .returned (.tuple #[])/\W=w')):=fun W=>by
  go_enter func190,ntmps190
  go_wp2_with fail
  refine abP 2 ?_;rw[abF];go_wp2_with fail
  refine bodyPost_end (results_none rfl _ _ _) rfl ?_;exact⟨rfl,rfl⟩
 have HP:Hid (∀(n:Int) W,aaf prog 141 #[.slice none 0 0,.int .i64 0,.int .i64 0,.int .i64 n] W (fun e w'=>e= .returned (.tuple #[])/\W=w')):=fun n W=>by
  go_enter func141,ntmps141
  go_wp2_with fail
  refine abP 2 ?_;rw[abF];go_wp2_with fail
  refine(HI.out _).mono ?_;rintro e w1 ⟨rfl,rfl⟩;go_wp2_with fail
  first
   | (refine bodyPost_end (results_none rfl _ _ _) rfl ?_)
   | (refine bodyPost_ret (results_none rfl _ _ _) rfl ?_)
   | fail
  exact⟨rfl,rfl⟩
 go_enter func79,ntmps79
 go_wp2_with fail
 refine(HL.out _).mono ?_;rintro e w1 ⟨⟨n,rfl⟩,rfl⟩;go_wp2_with fail
 refine(HP.out _ _).mono ?_;rintro e w1 ⟨rfl,rfl⟩;go_wp2_with fail
 refine bodyPost_end (results_none rfl _ _ _) rfl ?_;exact⟨rfl,BY _ _⟩
theorem XD{w:AI}{b q r f g sp:Nat}{P:eK}{s:St}{i:Int}(h:Db w b q r f g P s)(hs:jz w sp b i P.m false):aaf prog 18 #[.pointer (some ⟨sp,0,none⟩)] w (fun e w'=>∃n:Int,e= .returned (.int .i64 n)/\ah [sp,r] w w'/\Db w' b q r f g P (s.leave i).1):=by
 have HM:=sh (te hs);have ls:=Bk.lt hs;have lb:=h.top.lt;have s8:=Bk.cell hs 8;have f8:=Bk.frozen hs 8;have Wv:sp≠b:=Bk.ne hs h.top (by decide);have PD:sp≠r:=Bk.ne hs h.rd (by decide);have bB:ah [sp,r] w (w.setCell ⟨sp,8,none⟩ (.bool true)):=(ah.refl _ w).setCell (p:=⟨sp,8,none⟩) (.inl (by simp)) _;have ia:∀W,ah [r] (w.setCell ⟨sp,8,none⟩ (.bool true)) W->W.cell? ⟨sp,0,none⟩=some (.pointer (some ⟨b,0,none⟩))/\W.cell? ⟨b,1,none⟩=some (.pointer (some ⟨r,0,none⟩))/\W.cell? ⟨sp,1,none⟩=some (.int .i64 i):=fun W hW=>by
  have k1:=hW.bk (Bk.put hs 8 (.bool true)) (by simpa using PD);have k2:=hW.bk (h.top.vV (p:=⟨sp,8,none⟩) (Ne.symm Wv) (.bool true)) (by have:=h.ner.1;simpa using this);exact⟨k1.cell 0,k2.cell 1,k1.cell 1⟩
 have bD:=sh ia;have Tt:Bk (w.setCell ⟨sp,8,none⟩ (.bool true)) r 195 s.cells:=h.rd.vV (p:=⟨sp,8,none⟩) (Ne.symm PD) _;have HL:=sh (qx r i s (w.setCell ⟨sp,8,none⟩ (.bool true)).drew Tt.drew);obtain⟨s2,n2,sw⟩:∃s2 n2,s.leave i=(s2,n2):=⟨_,_,rfl⟩;rw[sw]at HL;have XS:=sh (show ∀W,ah [r] (w.setCell ⟨sp,8,none⟩ (.bool true)) W->Bk W r 195 s2.cells->Db W b q r f g P s2 from fun W hW lW=>by
  have hq:∀x∈[b,q,r,f],x∉[sp]:=fun x hx hm=>by
   obtain⟨cs,hp⟩:=h.zv;obtain⟨sP,h1,-⟩:=h.fr;rw[IN]at hm;subst hm;simp only[OF,acu,or_false]at hx;rcases hx with e|e|e|e
   ·exact Wv e
   ·subst e;exact(Bk.ne hs hp (by decide)) rfl
   ·exact PD e
   ·subst e;exact(Bk.ne hs h1 (by decide)) rfl
  exact(h.off (U:=[sp]) ((ah.refl _ w).setCell (p:=⟨sp,8,none⟩) (.inl (by simp)) (.bool true)) hq).mV hW lW)
 have m6:=sh bB;have sJ:=sh sw;clear h hs ia Tt bB sw;go_enter func18,ntmps18
 go_wp2_with fail
 refine HM.out.mono ?_;rintro e w1 ⟨rfl,rfl⟩;go_wp2_with fail
 go_region_held3 (fun W=>W.cell? ⟨sp,0,none⟩=some (.pointer (some ⟨b,0,none⟩))/\W.cell? ⟨b,1,none⟩=some (.pointer (some ⟨r,0,none⟩))/\W.cell? ⟨sp,1,none⟩=some (.int .i64 i)) (first|exact bD.out _ (ah.refl _ _).drew|exact bD.out _ jZ.out) (first
  | (go_at_call 60;refine HL.out.mono ?_;rintro e w2 ⟨rfl,lW,cP⟩;have gY:=sh lW;have jZ:=sh ((ah.refl [r] _).drew.trans cP);clear lW cP))
 all_goals
  go_wp2_with fail
  go_ret
  exact⟨_,rfl,m6.out.trans (jZ.out.mono (fun x hx=> .inl (by simp at hx;simp[hx]))),by rw[sJ.out];exact XS.out _ jZ.out gY.out⟩
theorem Og{w:AI}{b q r f g sp:Nat}{P:eK}{s:St}{i:Int}{u:FrameMode}(h:Db w b q r f g P s)(hs:jz w sp b i P.m false):CallsD prog 18 #[.pointer (some ⟨sp,0,none⟩)] u w (fun e u' w'=>u'=u/\∃n:Int,e= .returned (.int .i64 n)/\ah [sp,r] w w'/\Db w' b q r f g P (s.leave i).1):=by
 have HM:=sh (te hs);have ls:=Bk.lt hs;have lb:=h.top.lt;have s8:=Bk.cell hs 8;have f8:=Bk.frozen hs 8;have Wv:sp≠b:=Bk.ne hs h.top (by decide);have PD:sp≠r:=Bk.ne hs h.rd (by decide);have bB:ah [sp,r] w (w.setCell ⟨sp,8,none⟩ (.bool true)):=(ah.refl _ w).setCell (p:=⟨sp,8,none⟩) (.inl (by simp)) _;have ia:∀W,ah [r] (w.setCell ⟨sp,8,none⟩ (.bool true)) W->W.cell? ⟨sp,0,none⟩=some (.pointer (some ⟨b,0,none⟩))/\W.cell? ⟨b,1,none⟩=some (.pointer (some ⟨r,0,none⟩))/\W.cell? ⟨sp,1,none⟩=some (.int .i64 i):=fun W hW=>by
  have k1:=hW.bk (Bk.put hs 8 (.bool true)) (by simpa using PD);have k2:=hW.bk (h.top.vV (p:=⟨sp,8,none⟩) (Ne.symm Wv) (.bool true)) (by have:=h.ner.1;simpa using this);exact⟨k1.cell 0,k2.cell 1,k1.cell 1⟩
 have bD:=sh ia;have Tt:Bk (w.setCell ⟨sp,8,none⟩ (.bool true)) r 195 s.cells:=h.rd.vV (p:=⟨sp,8,none⟩) (Ne.symm PD) _;have HL:=sh (qx r i s (w.setCell ⟨sp,8,none⟩ (.bool true)).drew Tt.drew);obtain⟨s2,n2,sw⟩:∃s2 n2,s.leave i=(s2,n2):=⟨_,_,rfl⟩;rw[sw]at HL;have XS:=sh (show ∀W,ah [r] (w.setCell ⟨sp,8,none⟩ (.bool true)) W->Bk W r 195 s2.cells->Db W b q r f g P s2 from fun W hW lW=>by
  have hq:∀x∈[b,q,r,f],x∉[sp]:=fun x hx hm=>by
   obtain⟨cs,hp⟩:=h.zv;obtain⟨sP,h1,-⟩:=h.fr;rw[IN]at hm;subst hm;simp only[OF,acu,or_false]at hx;rcases hx with e|e|e|e
   ·exact Wv e
   ·subst e;exact(Bk.ne hs hp (by decide)) rfl
   ·exact PD e
   ·subst e;exact(Bk.ne hs h1 (by decide)) rfl
  exact(h.off (U:=[sp]) ((ah.refl _ w).setCell (p:=⟨sp,8,none⟩) (.inl (by simp)) (.bool true)) hq).mV hW lW)
 have m6:=sh bB;have sJ:=sh sw;clear h hs ia Tt bB sw
 go_enter_d func18,ntmps18
 go_wp2_with fail
 refine HM.out.mono ?_;rintro e w1 ⟨rfl,rfl⟩;go_wp2_with fail
 go_region_held3 (fun W=>W.cell? ⟨sp,0,none⟩=some (.pointer (some ⟨b,0,none⟩))/\W.cell? ⟨b,1,none⟩=some (.pointer (some ⟨r,0,none⟩))/\W.cell? ⟨sp,1,none⟩=some (.int .i64 i)) (first|exact bD.out _ (ah.refl _ _).drew|exact bD.out _ jZ.out) (first
  | (go_at_call 60;refine HL.out.mono ?_;rintro e w2 ⟨rfl,lW,cP⟩;have gY:=sh lW;have jZ:=sh ((ah.refl [r] _).drew.trans cP);clear lW cP))
 all_goals
  go_wp2_with fail
  go_ret
  exact⟨_,rfl,m6.out.trans (jZ.out.mono (fun x hx=> .inl (by simp at hx;simp[hx]))),by rw[sJ.out];exact XS.out _ jZ.out gY.out⟩
theorem JU{w:AI}{b q r f g sp:Nat}{P:eK}{s:St}{i t ff p l:Int}(h:Db w b q r f g P s)(hs:jz w sp b i ⟨t,0,ff,p,l⟩ false):aaf prog 27 #[.pointer (some ⟨sp,0,none⟩)] w (fun e w'=>e= .returned (.tuple #[.slice none 0 0,.int .i64 0])/\IT w.heap.size w w'):=by
 have HM:=sh (te hs);have ls:=Bk.lt hs;have lb:=h.top.lt;have HS:=sh hs;have HT:=sh h.top;have HR:=sh fun(v:No) (W:AI)=>Fl v W;have HN:=sh fun(T:TypeId) (v:No) (W:AI)=>xl T v W;have Uo:=sh fun(W:AI)=>JT W;have c0:=Bk.cell hs 0;have c3:=Bk.cell hs 3;have c7:=Bk.cell hs 7;have b0:=h.top.cell 0;clear h hs;go_enter func27,ntmps27
 go_wp2_with fail
 refine HM.out.mono ?_;rintro e w1 ⟨rfl,rfl⟩;go_wp2_with fail
 have hz:=Bk.new w 117 #[.pointer (some ⟨q,0,none⟩)];have HZ:=sh hz;have bD:=sh (show ∀W,IT (w.alloc (.cells #[.pointer (some ⟨q,0,none⟩)] 117)).heap.size (w.alloc (.cells #[.pointer (some ⟨q,0,none⟩)] 117)) W->W.cell? ⟨w.heap.size,0,none⟩=some (.pointer (some ⟨q,0,none⟩))/\W.cell? ⟨sp,3,none⟩=some (.int .i64 0) from fun W hW=>⟨(ae hz hW).cell 0,(ae (Bk.alloc HS.out _) hW).cell 3⟩);have lz:=hz.lt;clear hz;go_region_held3 (fun W=>W.cell? ⟨w.heap.size,0,none⟩=some (.pointer (some ⟨q,0,none⟩))/\W.cell? ⟨sp,3,none⟩=some (.int .i64 0)) (first|exact bD.out _ (BY _ _).drew) (first
  | (go_at_call 73;refine(HR.out _ _).mono ?_;rintro e w2 ⟨rfl,rfl⟩)
  | fail)
 all_goals
  go_wp2_with fail
  have Zb:IT w.heap.size w (((w.alloc (.cells #[.pointer (some ⟨q,0,none⟩)] 117)).alloc (.cells #[.slice none 0 0,.slice none 0 0] 51)).drew):=(((BY _ w).alloc (AS _) _).alloc (by simp) _).drew;refine(AD _ _ (show Bk _ (w.heap.size+1) 51 #[.slice none 0 0,.slice none 0 0] from ((by simpa using Bk.new (w.alloc (.cells #[.pointer (some ⟨q,0,none⟩)] 117)) 51 #[.slice none 0 0,.slice none 0 0]:Bk ((w.alloc (.cells #[.pointer (some ⟨q,0,none⟩)] 117)).alloc (.cells #[.slice none 0 0,.slice none 0 0] 51)) (w.heap.size+1) 51 #[.slice none 0 0,.slice none 0 0])).drew)).mono ?_;rintro e w2 ⟨rfl,aC⟩;have C9:=sh (ae ((Bk.alloc HZ.out (.cells #[.slice none 0 0,.slice none 0 0] 51)).drew) aC);have bm:=sh (Zb.trans (aC.mono Zb.size));have lz2:=C9.out.lt;clear Zb aC lz;have kf:=sh (show ∀W,IT w2.heap.size w2 W->W.cell? ⟨w.heap.size,0,none⟩=some (.pointer (some ⟨q,0,none⟩))/\W.cell? ⟨sp,3,none⟩=some (.int .i64 0) from fun W hW=>⟨(ae C9.out hW).cell 0,(ae (ae HS.out bm.out) hW).cell 3⟩);go_wp2_with fail
  go_region_held3 (fun W=>W.cell? ⟨w.heap.size,0,none⟩=some (.pointer (some ⟨q,0,none⟩))/\W.cell? ⟨sp,3,none⟩=some (.int .i64 0)) (first|exact kf.out _ (BY _ _).drew|exact kf.out _ cO.out) (first
   | (go_at_call 75;refine(HN.out _ _ _).mono ?_;rintro e w3 ⟨rfl,Ku,aN⟩;have zI:=sh Ku;have cO:=sh ((BY w2.heap.size w2).drew.trans (aN.mono (by simp)));clear Ku aN)
   | fail)
  all_goals
   have lc3:=zI.out.lt;go_wp2_with fail
   refine(qR _ _ _ zI.out).mono ?_;rintro e w4 ⟨rfl,uu⟩;have tB:=sh uu;clear uu;go_wp2_with fail
   refine abP 2 ?_;rw[abF];go_wp2_with fail
   refine(Uo.out _).mono ?_;rintro e w5 ⟨rfl,cV⟩;have m5:=sh cV;clear cV;go_wp2_with fail
   go_ret2
   have hB4:IT w.heap.size w w4:=((ah.af (bm.out.trans (cO.out.mono bm.out.size)) []).then tB.out (fun x hx=>by rw[IN]at hx;subst hx;exact .inr (by simpa using bm.out.size))).below (AS _) (by simp);exact⟨rfl,hB4.trans (m5.out.mono hB4.size)⟩
theorem JS{w:AI}{b q r f g sp:Nat}{P:eK}{s:St}{i t ff p l:Int}(h:Db w b q r f g P s)(hs:jz w sp b i ⟨t,0,ff,p,l⟩ false):aaf prog 90 #[.pointer (some ⟨sp,0,none⟩)] w (fun e w'=>e= .returned (.tuple #[.slice none 0 0,.int .i64 0])/\IT w.heap.size w w'):=by
 have HM:=sh (te hs);have ls:=Bk.lt hs;have lb:=h.top.lt;have bD:=sh (show ∀W,IT w.heap.size w W->W.cell? ⟨sp,0,none⟩=some (.pointer (some ⟨b,0,none⟩))/\W.cell? ⟨b,0,none⟩=some (.pointer (some ⟨q,0,none⟩))/\W.cell? ⟨sp,3,none⟩=some (.int .i64 0) from fun W hW=>⟨(ae hs hW).cell 0,(ae h.top hW).cell 0,(ae hs hW).cell 3⟩);have HN:=sh fun(T:TypeId) (v:No) (W:AI)=>xl T v W;clear h hs;go_enter func90,ntmps90
 go_wp2_with fail
 refine HM.out.mono ?_;rintro e w1 ⟨rfl,rfl⟩;go_wp2_with fail
 go_region_held3 (fun W=>W.cell? ⟨sp,0,none⟩=some (.pointer (some ⟨b,0,none⟩))/\W.cell? ⟨b,0,none⟩=some (.pointer (some ⟨q,0,none⟩))/\W.cell? ⟨sp,3,none⟩=some (.int .i64 0)) (first|exact bD.out _ (BY _ _).drew|exact bD.out _ cO.out) (first
  | (go_at_call 75;refine(HN.out _ _ _).mono ?_;rintro e w3 ⟨rfl,Ku,aN⟩;have zI:=sh Ku;have cO:=sh ((BY w.heap.size w).drew.trans (aN.mono (by simp)));clear Ku aN)
  | fail)
 all_goals
  have lc3:=zI.out.lt;go_wp2_with fail
  refine(qR _ _ _ zI.out).mono ?_;rintro e w4 ⟨rfl,uu⟩;have tB:=sh uu;clear uu;go_wp2_with fail
  refine abP 2 ?_;rw[abF];go_wp2_with fail
  go_ret2
  exact⟨rfl,((ah.af cO.out []).then tB.out (fun x hx=>by rw[IN]at hx;subst hx;exact .inr (by simp))).below (AS _) (by simp)⟩
theorem AX(w:AI):aaf prog 155 #[] w (fun e w'=>e= .returned (.pointer (some ⟨w.heap.size,0,none⟩))/\(∃sP,Bk w' w.heap.size 165 sP/\sP[0]? =some (.slice none 0 0))/\IT w.heap.size w w'):=by
 go_enter func155,ntmps155
 go_wp2_with fail
 go_ret
 refine⟨rfl,⟨_,Bk.new w _ _,?_⟩,(BY _ _).alloc (AS _) _⟩;rfl
theorem Cq(q:Nat)(w:AI):aaf prog 100 #[.pointer (some ⟨q,0,none⟩),.int .i64 0] w (fun e w'=>∃f,w.heap.size<=f/\e= .returned (.tuple #[.pointer (some ⟨f,0,none⟩),.slice none 0 0,.int .i64 0])/\(∃sP,Bk w' f 165 sP/\sP[0]? =some (.slice none 0 0))/\IT w.heap.size w w'):=by
 have HF:=sh fun(W:AI)=>AX W;go_enter func100,ntmps100
 go_wp2_with fail
 refine(HF.out _).mono ?_;rintro e w1 ⟨rfl,hf,hb⟩;have HE:=sh hf;have HB:=sh hb;clear hf hb;go_wp2_with fail
 refine abP 2 ?_;rw[abF];go_wp2_with fail
 refine bodyPost_ret (v:= .tuple #[.pointer (some ⟨w.heap.size,0,none⟩),.slice none 0 0,.int .i64 0]) (by simp[results,results100,go_sem]) rfl ?_;exact⟨_,AS _,rfl,HE.out,HB.out⟩
theorem pd{L:Ending->AI->Prop}{a:No}{n:Int}{w:AI}(h:aaf prog 98 #[a,.int .i64 n] w (fun e w'=>(∃x:Int,e= .returned (.int .i64 x))/\L e w')):aaf prog 42 #[a,.int .i64 n] w L:=by
 have H:=sh h;clear h;go_enter func42,ntmps42
 go_wp2_with fail
 refine H.out.mono ?_;rintro e w1 ⟨⟨v,rfl⟩,hl⟩;have HL:=sh hl;clear hl;go_wp2_with fail
 exact HL.out
def Hv (g:Nat) (P:eK) (w:AI) (e:Ending) (w':AI):Prop:=∃b q r f,e= .returned (.tuple #[.pointer (some ⟨b,0,none⟩),.int .i64 0])/\Db w' b q r f g P St.empty/\(∀x∈[b,q,r,f],w.heap.size<=x)/\IT w.heap.size w w'
theorem Jg{g:Nat}{S:List Nat}{D:DevS}{P:eK}{w:AI}(hd:Dev w g S D)(hr:aS w)(hb:D.steps<=1000000000)(h0:dQ D=0)(hP:kQ D=P)(hf:P.m.f=0):
  aaf prog 43 #[ptr g] w (Hv g P w):=by
 have HO:=sh (GZ hd hr hb h0 hP);have Kx:∀W:AI,Sem.run prog (Instr.field 40 (.agg #[.int .i64 P.m.t,.int .i64 P.m.r,.int .i64 P.m.f,.int .i64 P.m.p,.int .i64 P.m.l]) 2) W= .ok (.int .i64 0) W:=fun W=>by rw[TJ,hf]
 have Sb:=sh fun(q:Nat) (W:AI)=>Cq q W;have Uk:=sh fun(W:AI)=>x9 W;clear hd hr hb h0 hP hf;go_enter func43,ntmps43
 go_wp2_with fail
 refine HO.out.mono ?_;rintro e w1 ⟨q,hq,rfl,uy,ar⟩;have HP:=sh uy;have bh:=sh ar;have HM:=sh (mU uy);have MU:=uy.old q (by simp);clear uy ar;go_wp2_with fail
 refine HM.out.mono ?_;rintro e w2 ⟨rfl,aC⟩;have bm:=sh (bh.out.trans (aC.mono bh.out.size));have pL:=sh (HP.out.below aC);have Q7:=Nat.lt_of_lt_of_le MU aC.size;clear aC;go_wp2_with fail
 refine(Sb.out _ _).mono ?_;rintro e w3 ⟨f,uj,rfl,hfe,aN⟩;have du:=sh (bm.out.trans (aN.mono bm.out.size));have Yw:=sh (pL.out.below aN);have HFE:=sh hfe;have Gv:w.heap.size<=f:=abw bm.out.size uj;clear aN hfe;go_wp2_with fail
 refine(Uk.out _).mono ?_;rintro e w4 ⟨rfl,XA,bT⟩;have fU:=sh (du.out.trans (bT.mono du.out.size));have Yx:=sh (Yw.out.below bT);have KX:=sh XA;have ac9:Hid (∃sP,Bk w4 f 165 sP/\sP[0]? =some (.slice none 0 0)):=by
  obtain⟨sP,h1,h2⟩:=HFE.out;exact⟨sP,ae h1 bT,h2⟩
 clear bT XA;go_wp2_with fail
 go_ret2
 refine⟨w4.heap.size,q,w3.heap.size,f,rfl,⟨Bk.new w4 _ _,Yx.out.below ((BY _ _).alloc (AS _) _),KX.out.alloc _,?_⟩,?_,fU.out.alloc fU.out.size _⟩
 ·obtain⟨sP,h1,h2⟩:=ac9.out
  exact⟨sP,h1.alloc _,h2⟩
 ·intro x hx
  simp only[OF,acu,or_false]at hx;rcases hx with rfl|rfl|rfl|rfl
  ·exact fU.out.size
  ·exact hq
  ·exact du.out.size
  ·exact Gv
def DB (n limit:Int) (w:AI) (e:Ending) (w':AI):Prop:=∃b q r f g S,e= .returned (.pointer (some ⟨b,0,none⟩))/\Db w' b q r f g (qU limit) St.empty/\Dev w' g S (b7 n.toNat limit)/\(∀x∈[b,q,r,f]++S,w.heap.size<=x)/\(∀x∈[b,q,r,f],x∉S)/\IT w.heap.size w w'
theorem Nj(w:AI)(hr:aS w):aaf prog 80 #[.int .i64 20] w (DB 80 20 w):=by
 have HR:=sh hr;have HN:Hid (∀W,aaf prog 41 #[.int .i64 80] W (yG 80 W)):=fun W=>AJ 80 W (by decide) (by decide);have HF:Hid (eR (DevS.new 80) 20=(b7 80 20,0)):=ue (by omega) (by omega);have HO:Hid (dQ (b7 80 20)=0/\kQ (b7 80 20)=qU 20):=AW (by omega) (by omega);clear hr;go_enter func80,ntmps80
 go_wp2_with fail
 (go_at_call 41)
 refine(HN.out _).mono ?_;rintro e w1 ⟨g,S1,rfl,zP,Bg,Zp⟩;have TY:=sh zP;have H1:Hid (IT w.heap.size w w1/\∀b∈S1,w.heap.size<=b):=⟨Bg,Zp⟩;clear zP Bg Zp;go_wp2_with fail
 (go_at_call 42)
 refine(pd ((xA TY.out 20 (HR.out.below H1.out.1) (Ha HR.out H1.out.2) (by decide) ⟨by decide,by decide,by simp[DevS.new]⟩ 0 HF.out).mono (fun e w' h=>⟨⟨_,h.1⟩,h⟩))).mono ?_;rintro e w2 ⟨rfl,ru⟩;obtain⟨S2,mK,qW,Zq⟩:=Cr H1.out.1 H1.out.2 ru;have vE:=sh mK;have H2:Hid (IT w.heap.size w w2/\∀b∈S2,w.heap.size<=b):=⟨qW,Zq⟩;clear mK qW Zq ru;go_wp2_with fail
 (go_at_call 43)
 refine(Jg vE.out (HR.out.below H2.out.1) (by decide) HO.out.1 HO.out.2 rfl).mono ?_;rintro e w3 ⟨b,q,r,f,rfl,fw,oX,xF⟩;have HM:Hid (Db w3 b q r f g (qU 20) St.empty/\Dev w3 g S2 (b7 80 20)/\(∀x∈[b,q,r,f]++S2,w.heap.size<=x)/\(∀x∈[b,q,r,f],x∉S2)/\IT w.heap.size w w3):=⟨fw,vE.out.below xF,fun x hx=>by
   rcases List.mem_append.1 hx with h|h
   ·exact abw H2.out.1.size (oX x h)
   ·exact H2.out.2 x h,fun x hx hs=>by have h1:=oX x hx;have h2:=vE.out.old _ hs;omega,H2.out.1.trans (xF.mono H2.out.1.size)⟩
 clear fw oX xF;go_wp2_with fail
 go_ret
 exact⟨b,q,r,f,g,S2,rfl,HM.out⟩
theorem FD(w:AI):aaf prog 90 #[.pointer none] w (fun e w'=>e= .returned (.tuple #[.slice none 0 0,.int .i64 2])/\w=w'):=by
 have HM:=sh fun(W:AI)=>Oq W;go_enter func90,ntmps90
 go_wp2_with fail
 refine(HM.out _).mono ?_;rintro e w1 ⟨rfl,rfl⟩;go_wp2_with fail
 go_ret2
 exact⟨rfl,rfl⟩
theorem DJ(w:AI):aaf prog 35 #[.pointer none] w (fun e w'=>e= .returned (.tuple #[.slice none 0 0,.int .i64 2])/\w=w'):=by
 have HM:=sh fun(W:AI)=>FD W;go_enter func35,ntmps35
 go_wp2_with fail
 refine(HM.out _).mono ?_;rintro e w1 ⟨rfl,rfl⟩;go_wp2_with fail
 go_ret2
 exact⟨rfl,rfl⟩
theorem LU(v:No)(w:AI):aaf prog 87 #[.pointer none,v] w (fun e w'=>e= .returned (.int .i64 2)/\w=w'):=by
 have HM:=sh fun(W:AI)=>DJ W;go_enter func87,ntmps87
 go_wp2_with fail
 refine(HM.out _).mono ?_;rintro e w1 ⟨rfl,rfl⟩;go_wp2_with fail
 go_ret
 exact⟨rfl,rfl⟩
theorem sum_nil(w:AI):aaf prog 37 #[.pointer none] w (fun e w'=>e= .returned (.tuple #[.int .u32 0,.int .i64 2])/\IT w.heap.size w w'):=by
 have HM:=sh fun(v:No) (W:AI)=>LU v W;have Xt:∀(fn:Fn) (first cap:Array No) (w:AI),(agE fn first cap).run prog w= .ok (.func fn first cap) w:=fun _ _ _ _=>rfl;go_enter func37,ntmps37
 go_wp2_with fail
 refine(HM.out _ _).mono ?_;rintro e w1 ⟨rfl,rfl⟩;go_wp2_with fail
 go_ret2
 exact⟨rfl,(BY _ w).alloc (AS _) _⟩
theorem xi{w:AI}{b q r f g sp:Nat}{P:eK}{s:St}{i t ff p l:Int}(h:Db w b q r f g P s)(hs:jz w sp b i ⟨t,0,ff,p,l⟩ false):aaf prog 35 #[.pointer (some ⟨sp,0,none⟩)] w (fun e w'=>e= .returned (.tuple #[.slice none 0 0,.int .i64 0])/\IT w.heap.size w w'):=by
 have HM:=sh (JS h hs);clear h hs;go_enter func35,ntmps35
 go_wp2_with fail
 refine HM.out.mono ?_;rintro e w1 ⟨rfl,hb⟩;have HB:=sh hb;clear hb;go_wp2_with fail
 go_ret2
 exact⟨rfl,HB.out⟩
theorem Qp{w:AI}{b q r f g sp:Nat}{P:eK}{s:St}{i t ff p l:Int}(v:No)(h:Db w b q r f g P s)(hs:jz w sp b i ⟨t,0,ff,p,l⟩ false):aaf prog 87 #[.pointer (some ⟨sp,0,none⟩),v] w (fun e w'=>e= .returned (.int .i64 0)/\IT w.heap.size w w'):=by
 have HM:=sh (xi h hs);clear h hs;go_enter func87,ntmps87
 go_wp2_with fail
 refine HM.out.mono ?_;rintro e w1 ⟨rfl,hb⟩;have HB:=sh hb;clear hb;go_wp2_with fail
 refine abP 2 ?_;rw[abF];go_wp2_with fail
 go_ret
 exact⟨rfl,HB.out⟩
theorem Ch:∃cs:Array No,∀W:AI,(Instr.makeSlice 51 (.int .i64 1) (.int .i64 1)).run prog W= .ok (.slice (some ⟨W.heap.size,0,none⟩) 1 1) (W.alloc (.cells cs 3)):=by
 have aae:(prog.info? 3).map (fun i=>(i.zero,i.size,i.bytes))=some (some (.int .i64 0),1,8):=by kernel_rfl
 obtain⟨i,hi,hz,hs,hb⟩:=ach aae;refine⟨madeCells #[.int .i64 0] 1,fun W=> ?_⟩;have hr:=run_make (P:=prog) W 51 3 i _ underlying51 hi hz .i64 .i64 1 1 (by omega) (Int.le_refl _) (by rw[hb];omega) (by omega);rw[hs]at hr;exact hr
theorem NX(v:No)(w:AI):aaf prog 86 #[v,.int .i64 1,.slice none 0 0,.slice none 0 0] w (fun e w'=>e= .returned (.tuple #[])/\IT w.heap.size w w'):=by
 have Xt:∀(fn:Fn) (first cap:Array No) (w:AI),(agE fn first cap).run prog w= .ok (.func fn first cap) w:=fun _ _ _ _=>rfl;obtain⟨cs,Es⟩:=Ch;go_enter func86,ntmps86
 go_wp2_with fail
 refine abP 2 ?_;rw[abF];go_wp2_with fail
 refine abP 2 ?_;rw[abF];go_wp2_with fail
 refine abP 2 ?_;rw[abF];go_wp2_with fail
 refine bodyPost_end (results_none rfl _ _ _) rfl ?_;exact⟨rfl,(((BY _ w).alloc (AS _) _).alloc (by simp) _).alloc (by simp;omega) _⟩
def bW (t:Int):Array No:= #[.int .i64 t,.int .i64 0,.int .i64 0,.int .i64 0,.int .i64 0,.int .i64 0,.int .i64 0,.int .i64 0]
theorem Bk.oQ{w:AI}{q:Nat}{t:TypeId}{v0 v1 v2 v3 v4 v5 v6 v7:No}(h:Bk w q t #[v0,v1,v2,v3,v4,v5,v6,v7])(a0 a1 a2 a3 a4 a5 a6 a7:No):
  Bk ((((((((w.setCell ⟨q,0,none⟩ a0).setCell ⟨q,1,none⟩ a1).setCell ⟨q,2,none⟩ a2).setCell ⟨q,3,none⟩ a3).setCell ⟨q,4,none⟩ a4).setCell ⟨q,5,none⟩ a5).setCell ⟨q,6,none⟩ a6).setCell ⟨q,7,none⟩ a7) q t #[a0,a1,a2,a3,a4,a5,a6,a7]:=
 by
 have h0:=h.put 0 a0;have h1:=h0.put 1 a1;have h2:=h1.put 2 a2;have h3:=h2.put 3 a3;have h4:=h3.put 4 a4;have h5:=h4.put 5 a5;have h6:=h5.put 6 a6;have h7:=h6.put 7 a7;simpa using h7
theorem rK{tm:Array No}{w:AI}{b:Nat}{c0 c1 c2 c3 c4 c5 c6 c7:No}{x:Int}(h2:tm[2]? =some (.pointer (some ⟨b,0,none⟩)))(h3:tm[3]? =some (.int .i64 x))(h:Bk w b 69 #[c0,c1,c2,c3,c4,c5,c6,c7]):
  Sem.run prog (results f31 tm) w= .ok (.tuple #[.agg #[c0,c1,c2,c3,c4,c5,c6,c7],.int .i64 x]) w:=by
 obtain⟨y0,y1,y2,y3,y4,y5,y6,y7⟩:=h.eight;simp[results,results31,go_sem,h2,h3,y0,y1,y2,y3,y4,y5,y6,y7]
theorem Db.old{w:AI}{b q r f g:Nat}{P:eK}{s:St}(h:Db w b q r f g P s):∀x∈[b,q,r,f],x<w.heap.size:=fun x hx=>by
 obtain⟨cs,hp⟩:=h.zv;obtain⟨sP,h1,-⟩:=h.fr;simp only[OF,acu,or_false]at hx;rcases hx with rfl|rfl|rfl|rfl
 ·exact h.top.lt
 ·exact hp.lt
 ·exact h.rd.lt
 ·exact h1.lt
def rJ (b q r f g sp:Nat) (P:eK) (s:St) (i:Int) (R:Nat) (w W:AI):Prop:=Db W b q r f g P s/\jz W sp b i ⟨1,0,0,1,20⟩ false/\Bk W R 69 (bW 0)/\ah [r] w W
theorem rJ.names{b q r f g sp:Nat}{P:eK}{s:St}{i:Int}{R:Nat}{w W:AI}(h:rJ b q r f g sp P s i R w W):aaf prog 35 #[.pointer (some ⟨sp,0,none⟩)] W (fun e w'=>e= .returned (.tuple #[.slice none 0 0,.int .i64 0])/\IT W.heap.size W w'):=xi h.1 h.2.1
theorem rJ.each{b q r f g sp:Nat}{P:eK}{s:St}{i:Int}{R:Nat}{w W:AI}(h:rJ b q r f g sp P s i R w W)(v:No):aaf prog 87 #[.pointer (some ⟨sp,0,none⟩),v] W (fun e w'=>e= .returned (.int .i64 0)/\IT W.heap.size W w'):=Qp v h.1 h.2.1
theorem rJ.below{b q r f g sp:Nat}{P:eK}{s:St}{i:Int}{R:Nat}{w W W':AI}(h:rJ b q r f g sp P s i R w W)(hb:IT W.heap.size W W'):rJ b q r f g sp P s i R w W':=
 ⟨h.1.below hb,ae h.2.1 hb,ae h.2.2.1 hb,h.2.2.2.trans (ah.af hb [r])⟩
theorem LC{w:AI}{b q r f g:Nat}{P:eK}{s s':St}{i:Int}(h:Db w b q r f g P s)(hm:P.m=⟨1,0,0,1,20⟩)(hE:s.enter 1=(s',i,0)):aaf prog 31 #[.pointer (some ⟨b,0,none⟩)] w (fun e w'=>e= .returned (.tuple #[.agg (bW 1),.int .i64 0])/\ah [r] w w'):=by
 have HD:=sh (h.below ((BY _ w).alloc (AS _) (.cells (bW 0) 69)));have sJ:=sh (RU HD.out (by rw[hm];exact hE));have Xt:∀(fn:Fn) (first cap:Array No) (w:AI),(agE fn first cap).run prog w= .ok (.func fn first cap) w:=fun _ _ _ _=>rfl;have Sc:=sh hm;have KR:=sh h.old;clear h hm;unfold bW at sJ HD
 go_enter_defers func31,ntmps31
 go_wp2_with fail
 refine sJ.out.mono ?_;rintro e w1 ⟨sp,rfl,ho,hd,hs,sZ⟩;have nk:w.heap.size≠r:=fun he=>by
  have h1:=Bk.new w 69 (bW 0);unfold bW at h1;exact Bk.ne h1 HD.out.rd (by decide) he
 have h1:rJ b q r f g sp P s' i w.heap.size w w1:=⟨hd,by rw[Sc.out]at hs;exact hs,ho.bk (Bk.new w 69 (bW 0)) (by simpa using nk),((ah.refl [r] w).alloc _).trans ho⟩;have H1:=sh h1;have lb:=h1.1.top.lt;have ls:=Bk.lt h1.2.1;have O1:=sh (JU h1.1 h1.2.1);have F1:Hid (w.heap.size<=sp):=show _<=_ by simp at sZ;omega
 clear h1 ho hd hs HD sJ sZ nk;go_wp2_with fail
 refine O1.out.mono ?_;rintro e w2 ⟨rfl,aC⟩;have h2:=H1.out.below aC;have H2:=sh h2;have Yc:=sh (nS h2.1);rw[Sc.out]at Yc;clear h2 aC H1 O1;go_wp2_with fail
 refine Yc.out.mono ?_;rintro e w3 ⟨rfl,aN⟩;have h3:=H2.out.below aN;have H3:=sh h3;clear h3 aN H2 Yc;go_wp2_with fail
 have hz:=Bk.new w3 40 #[.int .i64 1,.int .i64 0,.int .i64 0,.int .i64 1,.int .i64 20];have Y7:=H3.out.below ((BY _ w3).alloc (AS _) (.cells #[.int .i64 1,.int .i64 0,.int .i64 0,.int .i64 1,.int .i64 20] 40));generalize w3.alloc (.cells #[.int .i64 1,.int .i64 0,.int .i64 0,.int .i64 1,.int .i64 20] 40)=W3 at hz Y7 |-;generalize w3.heap.size=M at hz |-;have H3a:=sh Y7;have lz:=hz.lt;have lb3:=Y7.1.top.lt;have bD:=sh (show ∀W,IT W3.heap.size W3 W->W.cell? ⟨M,0,none⟩=some (.int .i64 1)/\W.cell? ⟨M,3,none⟩=some (.int .i64 1) from fun W hW=>⟨(ae hz hW).cell 0,(ae hz hW).cell 3⟩);have HF:=sh fun(W:AI) (hW:IT W3.heap.size W3 W)=>tP (Y7.1.below hW);have QI:IT W3.heap.size W3 (W3.alloc (.cells #[.int .i64 0,.int .i64 0,.int .i64 0,.int .i64 0,.int .i64 0,.int .i64 0,.int .i64 0,.int .i64 0] 69)).drew:=((BY _ W3).alloc (AS _) _).drew;have PI:=sh QI;clear hz Y7 lb ls H3 QI;go_region_held3 (fun W=>W.cell? ⟨M,0,none⟩=some (.int .i64 1)/\W.cell? ⟨M,3,none⟩=some (.int .i64 1)) (first|(refine bD.out _ ?_;with_reducible (first|exact(BY _ _).drew|exact dO.out|exact PI.out|exact(Below.alloc dO.out dO.out.size _)|exact((((((((dO.out.setCell (AS _) _).setCell (AS _) _).setCell (AS _) _).setCell (AS _) _).setCell (AS _) _).setCell (AS _) _).setCell (AS _) _).setCell (AS _) _)))|fail) (first
  | (go_at_call 21;refine(HF.out _ PI.out).mono ?_;rintro e w4 ⟨rfl,bT⟩;have dO:=sh (show IT W3.heap.size W3 w4 from PI.out.trans (bT.mono PI.out.size));have aT:=ae ((Bk.new W3 69 #[.int .i64 0,.int .i64 0,.int .i64 0,.int .i64 0,.int .i64 0,.int .i64 0,.int .i64 0,.int .i64 0]).drew) bT;have z0:=aT.frozen 0;have z1:=aT.frozen 1;have z2:=aT.frozen 2;have z3:=aT.frozen 3;have z4:=aT.frozen 4;have z5:=aT.frozen 5;have z6:=aT.frozen 6;have z7:=aT.frozen 7;have y0:=aT.cell 0;have y1:=aT.cell 1;have y2:=aT.cell 2;have y3:=aT.cell 3;have y4:=aT.cell 4;have y5:=aT.cell 5;have y6:=aT.cell 6;have y7:=aT.cell 7;have lbk:=aT.lt;have pJ:=sh aT;clear aT bT)
  | (go_at_call 21;refine(HF.out _ (BY _ _).drew).mono ?_;rintro e w4 ⟨rfl,bT⟩;have dO:=sh (show IT W3.heap.size W3 w4 from (BY _ _).drew.trans bT);clear bT)
  | fail)
 all_goals
  go_wp2_with fail
  first
   | (have cV:IT W3.heap.size W3 ((((((((w4.setCell ⟨W3.heap.size,0,none⟩ (.int .i64 1)).setCell ⟨W3.heap.size,1,none⟩ (.int .i64 (IntKind.i64.wrap 0))).setCell ⟨W3.heap.size,2,none⟩ (.int .i64 0)).setCell ⟨W3.heap.size,3,none⟩ (.int .i64 0)).setCell ⟨W3.heap.size,4,none⟩ (.int .i64 0)).setCell ⟨W3.heap.size,5,none⟩ (.int .i64 0)).setCell ⟨W3.heap.size,6,none⟩ (.int .i64 0)).setCell ⟨W3.heap.size,7,none⟩ (.int .i64 0)):=((((((((dO.out.setCell (AS _) _).setCell (AS _) _).setCell (AS _) _).setCell (AS _) _).setCell (AS _) _).setCell (AS _) _).setCell (AS _) _).setCell (AS _) _)
      have Df:Bk ((((((((w4.setCell ⟨W3.heap.size,0,none⟩ (.int .i64 1)).setCell ⟨W3.heap.size,1,none⟩ (.int .i64 (IntKind.i64.wrap 0))).setCell ⟨W3.heap.size,2,none⟩ (.int .i64 0)).setCell ⟨W3.heap.size,3,none⟩ (.int .i64 0)).setCell ⟨W3.heap.size,4,none⟩ (.int .i64 0)).setCell ⟨W3.heap.size,5,none⟩ (.int .i64 0)).setCell ⟨W3.heap.size,6,none⟩ (.int .i64 0)).setCell ⟨W3.heap.size,7,none⟩ (.int .i64 0)) W3.heap.size 69 (bW 1):=pJ.out.oQ _ _ _ _ _ _ _ _;generalize ((((((((w4.setCell ⟨W3.heap.size,0,none⟩ (.int .i64 1)).setCell ⟨W3.heap.size,1,none⟩ (.int .i64 (IntKind.i64.wrap 0))).setCell ⟨W3.heap.size,2,none⟩ (.int .i64 0)).setCell ⟨W3.heap.size,3,none⟩ (.int .i64 0)).setCell ⟨W3.heap.size,4,none⟩ (.int .i64 0)).setCell ⟨W3.heap.size,5,none⟩ (.int .i64 0)).setCell ⟨W3.heap.size,6,none⟩ (.int .i64 0)).setCell ⟨W3.heap.size,7,none⟩ (.int .i64 0))=W5 at cV Df |-;obtain⟨R2,Ed⟩:∃R2,R2=W3.heap.size:=⟨_,rfl⟩;have Bd:Hid (W3.heap.size<=R2):=show _<=_ from Nat.le_of_eq Ed.symm;rw[<-Ed]at Df |-;clear Ed)
   | (have cV:IT W3.heap.size W3 (w4.alloc (.cells #[.int .i64 1,.int .i64 (IntKind.i64.wrap 0),.int .i64 0,.int .i64 0,.int .i64 0,.int .i64 0,.int .i64 0,.int .i64 0] 69)):=dO.out.alloc dO.out.size _
      have Df:Bk (w4.alloc (.cells #[.int .i64 1,.int .i64 (IntKind.i64.wrap 0),.int .i64 0,.int .i64 0,.int .i64 0,.int .i64 0,.int .i64 0,.int .i64 0] 69)) w4.heap.size 69 (bW 1):=Bk.new w4 _ _;generalize (w4.alloc (.cells #[.int .i64 1,.int .i64 (IntKind.i64.wrap 0),.int .i64 0,.int .i64 0,.int .i64 0,.int .i64 0,.int .i64 0,.int .i64 0] 69))=W5 at cV Df |-;obtain⟨R2,Ed⟩:∃R2,R2=w4.heap.size:=⟨_,rfl⟩;have Bd:Hid (W3.heap.size<=R2):=show _<=_ from by rw[Ed];exact dO.out.size
      rw[<-Ed]at Df |-;clear Ed)
   | fail
  have h5:=H3a.out.below cV;have m5:=sh cV;have kf:=sh (show ∀W,IT W5.heap.size W5 W->W.cell? ⟨M,3,none⟩=some (.int .i64 1) from fun W hW=>(bD.out _ (cV.trans (hW.mono cV.size))).2);have XU:=sh fun(W:AI) (hW:IT W5.heap.size W5 W)=>tP (h5.1.below hW);have tC:=sh fun(v:No) (W:AI)=>NX v W;have H5:=sh h5;have Yz:=sh Df;clear h5 Df cV;first
   | go_region_held3 (fun W=>W.cell? ⟨M,3,none⟩=some (.int .i64 1)) (first|(refine kf.out _ ?_;with_reducible (first|exact(BY _ _).drew|exact rh.out|exact Bp.out))|fail) (first
     | (go_at_call 21;refine(XU.out _ (BY _ _).drew).mono ?_;rintro e w6 ⟨rfl,ga⟩;have rh:=sh (show IT W5.heap.size W5 w6 from (BY _ _).drew.trans ga);clear ga)
     | (go_at_call 86;refine(tC.out _ _).mono ?_;rintro e w7 ⟨rfl,sS⟩;have Bp:=sh (show IT W5.heap.size W5 w7 from rh.out.trans (sS.mono rh.out.size));clear sS)
     | fail)
   | fail
  have h7:=H5.out.below Bp.out;have Ps:=ae Yz.out Bp.out;have HN7:=sh h7.names;have H7:=sh h7;have HR7:=sh Ps;clear h7 Ps;go_wp2_with fail
  refine HN7.out.mono ?_;rintro e w8 ⟨rfl,ng⟩;have h8:=H7.out.below ng;have BE:=ae HR7.out ng;have H8:=sh h8;have HR8:=sh BE;have HB7:=sh (m5.out.trans (Bp.out.mono m5.out.size));have HB8:=sh (HB7.out.trans (ng.mono HB7.out.size));unfold bW at BE;have lr8:=BE.lt;have y6:=BE.cell 6;have z6:=BE.frozen 6;clear h8 BE ng;go_wp2_with fail
  have h9:=H3a.out.below (HB8.out.setCell (p:=⟨R2,6,none⟩) Bd.out (.int .i64 0));have V2:Bk (w8.setCell ⟨R2,6,none⟩ (.int .i64 0)) R2 69 (bW 1):=by
   have:=HR8.out.put 6 (.int .i64 0);unfold bW at this |-;simpa using this
  generalize w8.setCell ⟨R2,6,none⟩ (.int .i64 0)=w9 at h9 V2 |-;refine(h9.each _).mono ?_;rintro e Dr ⟨rfl,UZ⟩;have fu:=h9.below UZ;have BD:=ae V2 UZ;have PH:=sh fu;have gL:=fu.2.2.1;have HR:=sh gL;unfold bW at BD gL;have age:=BD.lt;have l10:=gL.lt;obtain⟨y0,y1,y2,y3,y4,y5,y6,y7⟩:=BD.eight;obtain⟨x0,x1,x2,x3,x4,x5,x6,x7⟩:=gL.eight;have z0:=gL.frozen 0;have z1:=gL.frozen 1;have z2:=gL.frozen 2;have z3:=gL.frozen 3;have z4:=gL.frozen 4;have z5:=gL.frozen 5;have z6:=gL.frozen 6;have z7:=gL.frozen 7;clear h9 V2 UZ fu BD gL;go_wp2_with fail
  have bB:ah [w.heap.size] Dr ((((((((Dr.setCell ⟨w.heap.size,0,none⟩ (.int .i64 1)).setCell ⟨w.heap.size,1,none⟩ (.int .i64 0)).setCell ⟨w.heap.size,2,none⟩ (.int .i64 0)).setCell ⟨w.heap.size,3,none⟩ (.int .i64 0)).setCell ⟨w.heap.size,4,none⟩ (.int .i64 0)).setCell ⟨w.heap.size,5,none⟩ (.int .i64 0)).setCell ⟨w.heap.size,6,none⟩ (.int .i64 0)).setCell ⟨w.heap.size,7,none⟩ (.int .i64 0)):=(((((((((ah.refl [w.heap.size] Dr).setCell (.inl (by simp)) _).setCell (.inl (by simp)) _).setCell (.inl (by simp)) _).setCell (.inl (by simp)) _).setCell (.inl (by simp)) _).setCell (.inl (by simp)) _).setCell (.inl (by simp)) _).setCell (.inl (by simp)) _);have aT:Bk ((((((((Dr.setCell ⟨w.heap.size,0,none⟩ (.int .i64 1)).setCell ⟨w.heap.size,1,none⟩ (.int .i64 0)).setCell ⟨w.heap.size,2,none⟩ (.int .i64 0)).setCell ⟨w.heap.size,3,none⟩ (.int .i64 0)).setCell ⟨w.heap.size,4,none⟩ (.int .i64 0)).setCell ⟨w.heap.size,5,none⟩ (.int .i64 0)).setCell ⟨w.heap.size,6,none⟩ (.int .i64 0)).setCell ⟨w.heap.size,7,none⟩ (.int .i64 0)) w.heap.size 69 (bW 1):=HR.out.oQ _ _ _ _ _ _ _ _;generalize ((((((((Dr.setCell ⟨w.heap.size,0,none⟩ (.int .i64 1)).setCell ⟨w.heap.size,1,none⟩ (.int .i64 0)).setCell ⟨w.heap.size,2,none⟩ (.int .i64 0)).setCell ⟨w.heap.size,3,none⟩ (.int .i64 0)).setCell ⟨w.heap.size,4,none⟩ (.int .i64 0)).setCell ⟨w.heap.size,5,none⟩ (.int .i64 0)).setCell ⟨w.heap.size,6,none⟩ (.int .i64 0)).setCell ⟨w.heap.size,7,none⟩ (.int .i64 0))=w11 at bB aT |-
  have TA:sp≠w.heap.size:=Bk.ne PH.out.2.1 HR.out (by decide);have fw:=PH.out.1.off bB (fun x hx hm=>by rw[IN]at hm;have:=KR.out x hx;omega);have sw:jz w11 sp b i ⟨1,0,0,1,20⟩ false:=bB.bk PH.out.2.1 (by simpa using TA);refine leaves_cons (f:=18) (args:= #[.pointer (some ⟨sp,0,none⟩)]) (by simp) (by simp[go_sem]) ?_;refine(Og fw (by rw[Sc.out];exact sw)).mono ?_;rintro e u' w12 ⟨rfl,n,rfl,MG,ZP⟩;have VZ:Bk w12 w.heap.size 69 (bW 1):=MG.bk aT (by
   have:=KR.out r (by simp);simp;exact⟨fun h=>TA h.symm,by omega⟩)
  refine⟨_,rK rfl rfl VZ,rfl,?_⟩;exact((PH.out.2.2.2.then bB (fun x hx=>by rw[IN]at hx;exact .inr (by omega))).then MG (fun x hx=>by
   simp only[OF,acu,or_false]at hx;rcases hx with rfl|rfl
   ·exact .inr F1.out
   ·exact .inl (by simp)))
def F8 (n:Nat) (w:AI) (e:Ending) (w':AI):Prop:=IT w.heap.size w w'/\∃v,e= .returned v/\w'.ownsRow w.heap.size 3 1 v 0 []
theorem IJ(n:Nat)(w:AI)(h0:0<n)(hn:n<=10000):aaf prog 136 #[.slice none 0 0,.int .i64 n] w (F8 n w):=by
 obtain⟨i0,hi,ez,dP,eh⟩:=ach dz;have z1:decide ((n:Int)<0)=false:=decide_eq_false (by omega);have z2:decide ((0:Int)<(n:Int))=true:=decide_eq_true (by omega);have IP:=nextslicecap_le_wide (need:=0+n) (old:=0) (by omega);have yx:=sh fun(W:AI)=>Lib.run_append_grow_zeros (P:=prog) W 51 3 51 3 i0 _ .i64 .i64 underlying51 underlying3 hi ez none 0 0 [] (by simp[Builtin.firstCells]) n h0 (by rw[dP];omega) (by omega) (by omega) (by rw[eh];omega) (by rw[eh];have:=Nat.mul_le_mul_right 8 IP;omega);have jU:∀W:AI,∃c,n<=c/\∃cur:Array No,cur.size=c*1/\c<=abj/\(Builtin.append_ #[51,3] 51 #[.slice none 0 0,.int .i64 n]).run prog W= .ok (.slice (some ⟨W.heap.size,0,none⟩) n c) (W.drew.alloc (.cells cur 3)):=fun W=>by
  have h:=yx.out W;rw[Nat.zero_add]at h;have Eo:=grownCap_ge W n 0 3;refine⟨_,Eo,_,?_,grownCap_le_maxLen W n 0 _ (by unfold abj;omega),h⟩;have e5:(Value.int .i64 0).cells.size=1:=rfl;simp only[Array.size_append,size_zeroCells,e5];simp;omega
 obtain⟨c,hc,cur,fy,cI,HW⟩:=jU w;have HC:=sh fy;have zO:c<=9223372036854775807:=by unfold abj at cI;omega
 have HM:=sh cI;have DA:=sh HW;clear IP jU fy cI yx HW;go_enter func136,ntmps136
 go_wp2_with (at_builtin;refine wpList_append_run rfl (.tmp 20) (.tmp 21) 51 3 rfl _ _ _ _ rfl rfl DA.out ?_)
 go_ret
 refine⟨(BY _ w).drew.alloc (AS _) _,_,rfl,?_⟩;refine⟨rfl,.inr ⟨w.heap.size,c,cur,rfl,AS _,?_,Nat.zero_le _,HM.out,HC.out,rfl⟩⟩;exact heap_alloc_new w.drew _
theorem xE(n:Nat)(w:AI)(hn:n<=10000):aaf prog 136 #[.slice none 0 0,.int .i64 n] w (F8 n w):=by
 by_cases h:0<n
 ·exact IJ n w h hn
 ·obtain rfl:n=0:=by omega
  refine(xD w).mono ?_;rintro e w' ⟨rfl,rfl⟩;exact⟨BY _ _,_,rfl,World.ownsRow_nil _ _ _ _⟩
theorem AB{w:AI}{k:Nat}{A0 A1 A2:Option Addr}{c0 c1 c2:Nat}{l0 l1 l2:List Nat}(h:Bk w k 51 #[.slice A0 l0.length c0,.slice A1 l1.length c1,.slice A2 l2.length c2])(h0:Sl w A0 (ints l0))(h1:Sl w A1 (ints l1))(h2:Sl w A2 (ints l2))(hl:l0.length+l1.length+l2.length<=10000):
  aaf prog 74 #[.slice (some ⟨k,0,none⟩) 3 3] w (fun e w'=>IT w.heap.size w w'/\∃A c,e= .returned (.slice A (l0++(l1++l2)).length c)/\w'.ownsRow w.heap.size 3 1 (.slice A (l0++(l1++l2)).length c) (l0++(l1++l2)).length (ints (l0++(l1++l2)))):=by
 obtain⟨i0,hi,ez,dP,eh⟩:=ach dz;have q0:=h.cell 0;have q1:=h.cell 1;have q2:=h.cell 2;have lk:=h.lt;have HK:=sh h;have O3:=sh h0;have Ul:=sh h1;have jO:=sh h2;obtain⟨n0,GD⟩:∃n,n=l0.length:=⟨_,rfl⟩;obtain⟨n1,gQ⟩:∃n,n=l1.length:=⟨_,rfl⟩;obtain⟨n2,jY⟩:∃n,n=l2.length:=⟨_,rfl⟩;rw[<-GD]at q0;rw[<-gQ]at q1;rw[<-jY]at q2;have Ud:=sh GD;have dG:=sh gQ;have gP:=sh jY;have b0:n0<=10000:=by omega
 have b1:n0+n1<=10000:=by omega
 have b2:n0+n1+n2<=10000:=by omega
 have y0:decide (((0:Int)+(n0:Int))<0)=false:=decide_eq_false (by omega);have y1:decide (((n0:Int)+(n1:Int))<0)=false:=decide_eq_false (by omega);have y2:decide (((n0:Int)+(n1:Int)+(n2:Int))<0)=false:=decide_eq_false (by omega);have HG:=sh fun(W:AI)=>xE (n0+n1+n2) W b2;clear h h0 h1 h2 GD gQ jY hl;go_enter func74,ntmps74
 go_wp2_with fail
 refine abP 5 ?_;rw[abF];go_wp2_with fail
 rw[abF];go_wp2_with fail
 rw[abF];go_wp2_with fail
 rw[abF];go_wp2_with fail
 refine(HG.out _).mono ?_;rintro e w1 ⟨ar,v0,rfl,rp⟩;have bh:=sh ar;have dy:=ae HK.out ar;have OZ:=sh rp;clear ar rp;have r0:=dy.cell 0;have lk1:=dy.lt;rw[<-Ud.out]at r0;clear dy q0 q1 q2 lk;go_wp2_with fail
 refine abP 5 ?_;rw[abF];go_wp2_with (at_builtin;refine aM _ rfl (.tmp 31) (.tmp 32) 51 rfl w.heap.size 3 i0 (.int .i64 0) 8 underlying51 hi ez dP eh rfl v0 0 [] rfl OZ.out A0 n0 c0 (ints l0) (by rw[Ud.out,eP]) rfl (O3.out.below bh.out) (cK l0) (by unfold abj;omega) (by omega) bh.out.size ?_;intro v1 w2 aq bE uk)
 have hJ:=sh aq;have bm:=sh (((ah.af bh.out []).grown bE (fun g hg=> .inr (OZ.out.lt g hg).1)).below (AS _) (by simp));have bR:=ae HK.out bm.out;have r1:=bR.cell 1;rw[<-dG.out]at r1;have lk2:=bR.lt;clear aq bE uk bR r0 lk1;go_wp2_with fail
 rw[abF];go_wp2_with (at_builtin;refine aM _ rfl (.tmp 31) (.tmp 32) 51 rfl w.heap.size 3 i0 (.int .i64 0) 8 underlying51 hi ez dP eh rfl v1 (0+n0) ([]++ints l0) rfl hJ.out A1 n1 c1 (ints l1) (by rw[dG.out,eP]) rfl (Ul.out.below bm.out) (cK l1) (by unfold abj;omega) (by omega) bm.out.size ?_;intro v2 w3 aq bE uk)
 have fX:=sh aq;have du:=sh (((ah.af bm.out []).grown bE (fun g hg=> .inr (hJ.out.lt g hg).1)).below (AS _) (by simp));have cO:=ae HK.out du.out;have r2:=cO.cell 2;rw[<-gP.out]at r2;have lk3:=cO.lt;clear aq bE uk cO r1 lk2;go_wp2_with fail
 rw[abF];go_wp2_with (at_builtin;refine aM _ rfl (.tmp 31) (.tmp 32) 51 rfl w.heap.size 3 i0 (.int .i64 0) 8 underlying51 hi ez dP eh rfl v2 (0+n0+n1) ([]++ints l0++ints l1) rfl fX.out A2 n2 c2 (ints l2) (by rw[gP.out,eP]) rfl (jO.out.below du.out) (cK l2) (by unfold abj;omega) (by omega) du.out.size ?_;intro v3 w4 aq bE uk)
 have im:=sh aq;have fU:=sh (((ah.af du.out []).grown bE (fun g hg=> .inr (fX.out.lt g hg).1)).below (AS _) (by simp));have dO:=ae HK.out fU.out;have lk4:=dO.lt;clear aq bE uk dO r2 lk3;go_wp2_with fail
 rw[abF];go_wp2_with fail
 go_ret
 obtain⟨A,c,hv,-⟩:=aV im.out;subst hv;have e1:0+n0+n1+n2=(l0++(l1++l2)).length:=by rw[AT,AT,<-Ud.out,<-dG.out,<-gP.out];omega
 have e2:[]++ints l0++ints l1++ints l2=ints (l0++(l1++l2)):=by simp[ints]
 have h9:=im.out;rw[e2,e1]at h9;exact⟨fU.out,A,c,congrArg (fun z=>adw (.slice A z c)) e1,h9⟩
theorem Az{w:AI}{k:Nat}{A0 A1:Option Addr}{c0 c1:Nat}{l0 l1:List Nat}(h:Bk w k 51 #[.slice A0 l0.length c0,.slice A1 l1.length c1])(h0:Sl w A0 (ints l0))(h1:Sl w A1 (ints l1))(hl:l0.length+l1.length<=10000):
  aaf prog 74 #[.slice (some ⟨k,0,none⟩) 2 2] w (fun e w'=>IT w.heap.size w w'/\∃A c,e= .returned (.slice A (l0++l1).length c)/\w'.ownsRow w.heap.size 3 1 (.slice A (l0++l1).length c) (l0++l1).length (ints (l0++l1))):=by
 obtain⟨i0,hi,ez,dP,eh⟩:=ach dz;have q0:=h.cell 0;have q1:=h.cell 1;have lk:=h.lt;have HK:=sh h;have O3:=sh h0;have Ul:=sh h1;obtain⟨n0,GD⟩:∃n,n=l0.length:=⟨_,rfl⟩;obtain⟨n1,gQ⟩:∃n,n=l1.length:=⟨_,rfl⟩;rw[<-GD]at q0;rw[<-gQ]at q1;have Ud:=sh GD;have dG:=sh gQ;have b0:n0<=10000:=by omega
 have b1:n0+n1<=10000:=by omega
 have y0:decide (((0:Int)+(n0:Int))<0)=false:=decide_eq_false (by omega);have y1:decide (((n0:Int)+(n1:Int))<0)=false:=decide_eq_false (by omega);have HG:=sh fun(W:AI)=>xE (n0+n1) W b1;clear h h0 h1 GD gQ hl;go_enter func74,ntmps74
 go_wp2_with fail
 refine abP 4 ?_;rw[abF];go_wp2_with fail
 rw[abF];go_wp2_with fail
 rw[abF];go_wp2_with fail
 refine(HG.out _).mono ?_;rintro e w1 ⟨ar,v0,rfl,rp⟩;have bh:=sh ar;have dy:=ae HK.out ar;have OZ:=sh rp;clear ar rp;have r0:=dy.cell 0;have lk1:=dy.lt;rw[<-Ud.out]at r0;clear dy q0 q1 lk;go_wp2_with fail
 refine abP 4 ?_;rw[abF];go_wp2_with (at_builtin;refine aM _ rfl (.tmp 31) (.tmp 32) 51 rfl w.heap.size 3 i0 (.int .i64 0) 8 underlying51 hi ez dP eh rfl v0 0 [] rfl OZ.out A0 n0 c0 (ints l0) (by rw[Ud.out,eP]) rfl (O3.out.below bh.out) (cK l0) (by unfold abj;omega) (by omega) bh.out.size ?_;intro v1 w2 aq bE uk)
 have hJ:=sh aq;have bm:=sh (((ah.af bh.out []).grown bE (fun g hg=> .inr (OZ.out.lt g hg).1)).below (AS _) (by simp));have bR:=ae HK.out bm.out;have r1:=bR.cell 1;rw[<-dG.out]at r1;have lk2:=bR.lt;clear aq bE uk bR r0 lk1;go_wp2_with fail
 rw[abF];go_wp2_with (at_builtin;refine aM _ rfl (.tmp 31) (.tmp 32) 51 rfl w.heap.size 3 i0 (.int .i64 0) 8 underlying51 hi ez dP eh rfl v1 (0+n0) ([]++ints l0) rfl hJ.out A1 n1 c1 (ints l1) (by rw[dG.out,eP]) rfl (Ul.out.below bm.out) (cK l1) (by unfold abj;omega) (by omega) bm.out.size ?_;intro v2 w3 aq bE uk)
 have fX:=sh aq;have du:=sh (((ah.af bm.out []).grown bE (fun g hg=> .inr (hJ.out.lt g hg).1)).below (AS _) (by simp));have cO:=ae HK.out du.out;have lk3:=cO.lt;clear aq bE uk cO r1 lk2;go_wp2_with fail
 rw[abF];go_wp2_with fail
 go_ret
 obtain⟨A,c,hv,-⟩:=aV fX.out;subst hv;have e1:0+n0+n1=(l0++l1).length:=by rw[AT,<-Ud.out,<-dG.out];omega
 have e2:[]++ints l0++ints l1=ints (l0++l1):=by simp[ints]
 have h9:=fX.out;rw[e2,e1]at h9;exact⟨du.out,A,c,congrArg (fun z=>adw (.slice A z c)) e1,h9⟩
theorem Od(n:Int)(W:AI):(binOp .eql 69 (.agg #[.int .i64 n,.int .i64 0,.int .i64 0,.int .i64 0,.int .i64 0,.int .i64 0,.int .i64 0,.int .i64 0]) (.agg #[.int .i64 n,.int .i64 0,.int .i64 0,.int .i64 0,.int .i64 0,.int .i64 0,.int .i64 0,.int .i64 0])).run prog W= .ok (.bool true) W:=by
 rw[run_eql_struct];simp[go_sem,Result.andThen]
theorem DG(w:AI)(hr:aS w):aaf prog 28 #[] w (gl true w):=by
 have HB:=sh (Nj w hr);have he:=fun W=>Od 1 W;clear hr;go_enter func28,ntmps28
 go_wp2_with fail
 refine HB.out.mono ?_;rintro e w1 ⟨b,q,r,f,g,S,rfl,fw,ZR,oX,jU,ar⟩;have HC:=sh (LC fw rfl (s':=⟨some 1,none,none,none⟩) (i:=0) rfl);have bh:=sh ar;have Tu:=oX r (by simp);have Uk:=sh Tu;clear fw ZR oX jU ar Tu;go_wp2_with fail
 refine HC.out.mono ?_;rintro e w2 ⟨rfl,ho⟩;have HO:=sh ho;unfold bW;clear ho;go_wp2_with fail
 go_ret
 exact⟨rfl,(((ah.af bh.out []).then HO.out (fun x hx=>by rw[IN]at hx;subst hx;exact .inr Uk.out)).alloc _).below (AS _) (by simp)⟩
end Go.Proofs.YtjbcbnemdhbhbaaGreatDoor
