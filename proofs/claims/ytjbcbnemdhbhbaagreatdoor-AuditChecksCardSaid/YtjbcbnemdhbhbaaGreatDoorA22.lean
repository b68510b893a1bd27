import Derived.Test.YtjbcbnemdhbhbaaGreatDoorA3
import Derived.Test.YtjbcbnemdhbhbaaGreatDoorA20
import Derived.Test.YtjbcbnemdhbhbaaGreatDoorA21
import Derived.Deep.RegionHeld3
import Derived.WalkSpells
set_option maxRecDepth 100000
set_option linter.unusedVariables false
set_option linter.unusedSimpArgs false
set_option maxHeartbeats 40000000
open Go renaming Calls→aaf,Value→No,World→AI,rounds_succ→abF,wp_loop_rounds→abP
open Go.Instr renaming field→agF
open Go.IntWalk renaming i64_in→acq
open Go.Lib renaming hid→sh
open Go.RowKit renaming Below→IT
open Go.RowKit.Below renaming refl→BY
open Int renaming tdiv_eq_ediv_of_nonneg→afh
open List renaming mem_append→By,mem_cons→OF,mem_cons_of_mem→abW,mem_cons_self→acr,mem_singleton→IN
open Nat renaming le_refl→AS,le_trans→abw
namespace Go.Proofs.YtjbcbnemdhbhbaaGreatDoor
open Go.Proofs.Tryz
open Go.RowKit
open Go.PlainAid
theorem e8{w w':AI}(h:IT w.heap.size w w')(o:Obj):IT w.heap.size w (w'.alloc o):=h.alloc h.size o
theorem xj(w:AI)(t:TypeId)(cs:Array No)(k:Nat)(h:w.heap.size=k):Bk (w.alloc (.cells cs t)) k t cs:=by subst h;exact Bk.new w t cs
def dQ (D:DevS):Int:=
 if (D.read 0).2≠0 then (D.read 0).2 else if (D.read 1).2≠0 then (D.read 1).2
 else if cF (ib (D.read 0).1 (D.read 1).1)=true/\fx (ib (D.read 0).1 (D.read 1).1)<=(D.sec.length:Int)/4 then 0 else 4
def Cz (a b:ByteArray):ByteArray:=if Dq a b then a else b
def kQ (D:DevS):eK:=⟨wT (ib (D.read 0).1 (D.read 1).1),wT (Cz (D.read 0).1 (D.read 1).1),cF (Cz (D.read 0).1 (D.read 1).1),none,[]⟩
def iA (g:Nat) (D:DevS) (w:AI) (e:Ending) (w':AI):Prop:=
 IT w.heap.size w w'/\((dQ D≠0/\e= .returned (.tuple #[.pointer none,.int .i64 (dQ D)]))\/
  (dQ D=0/\∃q,w.heap.size<=q/\e= .returned (.tuple #[.pointer (some ⟨q,0,none⟩),.int .i64 0])/\Pg w' q [q] g (kQ D)))
theorem jn{g:Nat}{D:DevS}{w w':AI}{r:Int}(h:dQ D=r)(hr:r≠0)(hb:IT w.heap.size w w'):iA g D w (.returned (.tuple #[.pointer none,.int .i64 r])) w':=by
 subst h;exact⟨hb,.inl ⟨hr,rfl⟩⟩
theorem cw{g:Nat}{S:List Nat}{D:DevS}{w:AI}(hd:Dev w g S D)(i:Int)(s:ByteArray)(r:Int)(hb:D.steps<=1000000000)(h:D.read i=(s,r)):
  aaf prog 152 #[ptr g,.int .i64 i] w (oJ s r w):=by
 have h1:=Ir hd i hb;rw[h]at h1;exact h1
theorem Fb(D:DevS):(∃a r,D.read 0=(a,r)/\(r != 0)=true/\Hid (dQ D=r/\r≠0))\/
  (∃a b r,D.read 0=(a,0)/\D.read 1=(b,r)/\(r != 0)=true/\Hid (dQ D=r/\r≠0))\/
  (∃a b,D.read 0=(a,0)/\D.read 1=(b,0)):=by
 obtain⟨a,r,ha⟩:∃a r,D.read 0=(a,r):=⟨_,_,rfl⟩;obtain⟨b,q,hb⟩:∃b q,D.read 1=(b,q):=⟨_,_,rfl⟩;by_cases h0:r=0
 ·subst h0
  by_cases h1:q=0
  ·subst h1
   exact .inr (.inr ⟨a,b,ha,hb⟩)
  ·refine .inr (.inl ⟨a,b,q,ha,hb,by simpa using h1,⟨?_,h1⟩⟩)
   unfold dQ;rw[ha,hb,if_neg (by simp),if_pos h1]
 ·refine .inl ⟨a,r,ha,by simpa using h0,⟨?_,h0⟩⟩
  unfold dQ;rw[ha,if_pos h0]
theorem xX{g:Nat}{S:List Nat}{D:DevS}{w:AI}(hd:Dev w g S D)(hb:D.steps<=1000000000)(h:(∃a r,D.read 0=(a,r)/\(r != 0)=true/\Hid (dQ D=r/\r≠0))\/
  (∃a b r,D.read 0=(a,0)/\D.read 1=(b,r)/\(r != 0)=true/\Hid (dQ D=r/\r≠0))):
  aaf prog 99 #[ptr g] w (iA g D w):=by
 have HB:=sh hb;have HD:=sh hd;rcases h with⟨a,r,ha,q1,HR⟩|⟨a,b,r,ha,ar,q1,HR⟩
 ·have HA:=sh ha
  clear hd hb ha;go_enter func99,ntmps99
  go_wp2_with fail
  refine abP 3 ?_;rw[abF];go_wp2_with fail
  (go_at_call 152)
  refine(cw (HD.out.off ((ah.refl [] w).alloc _) (by simp)) 0 a r HB.out HA.out).mono ?_;rintro e w2 ⟨rfl,rfl⟩;go_wp2_with fail
  go_ret2
  exact jn HR.out.1 HR.out.2 ((BY _ w).alloc (AS _) _)
 ·have HA:=sh ha
  have yw:=sh ar;clear hd hb ha ar;go_enter func99,ntmps99
  go_wp2_with fail
  refine abP 3 ?_;rw[abF];go_wp2_with fail
  (go_at_call 152)
  refine(cw (HD.out.off ((ah.refl [] w).alloc _) (by simp)) 0 a 0 HB.out HA.out).mono ?_;rintro e w2 ⟨rfl,rfl⟩;go_wp2_with fail
  rw[abF];go_wp2_with fail
  (go_at_call 152)
  refine(cw (HD.out.off ((ah.refl [] w).alloc _) (by simp)) 1 b r HB.out yw.out).mono ?_;rintro e w2 ⟨rfl,rfl⟩;go_wp2_with fail
  go_ret2
  exact jn HR.out.1 HR.out.2 ((BY _ w).alloc (AS _) _)
theorem mP{a b:ByteArray}{t r f p l q e:Int}(ht:eD (ib a b)=t)(hr:ij (ib a b)=r)(hf:ie (ib a b)=f)(hp:ig (ib a b)=p)(hl:fx (ib a b)=l)(hq:NI a b=q)(he:dV (ib a b)=e)(W:AI)(hW:aS W):
  aaf prog 153 #[.string a,.string b] W (fun en w'=>en= .returned (.tuple #[.agg #[.int .i64 t,.int .i64 r,.int .i64 f,.int .i64 p,.int .i64 l],.int .i64 q,.int .i64 e])/\IT W.heap.size W w'):=by
 have h:=E7 a b W hW;unfold ei jm at h;rw[ht,hr,hf,hp,hl,hq,he]at h;exact h
theorem Jw{g:Nat}{S:List Nat}{D:DevS}{w:AI}(hd:Dev w g S D)(hr:aS w)(hb:D.steps<=1000000000){a b:ByteArray}(ha:D.read 0=(a,0))(ar:D.read 1=(b,0))(hu:cF (ib a b)=false):
  aaf prog 99 #[ptr g] w (iA g D w):=by
 have HO:Hid (dQ D=4):=show _=_ by
  unfold dQ;rw[ha,ar,if_neg (by simp),if_neg (by simp),if_neg (by rw[hu];simp)]
 have HB:=sh hb;have HD:=sh hd;have HR:=sh hr;have HA:=sh ha;have yw:=sh ar;obtain⟨q,hq⟩:∃q,NI a b=q:=⟨_,rfl⟩;obtain⟨u1,u2,u3,u4,u5,u6⟩:=vw hu;have HN:=sh (mP u1 u2 u3 u4 u5 hq u6);clear hu u1 u2 u3 u4 u5 u6 hq;clear hd hb ha ar hr;go_enter func99,ntmps99
 go_wp2_with fail
 refine abP 3 ?_;rw[abF];go_wp2_with fail
 (go_at_call 152)
 refine(cw (HD.out.off ((ah.refl [] w).alloc _) (by simp)) 0 a 0 HB.out HA.out).mono ?_;rintro e w2 ⟨rfl,rfl⟩;go_wp2_with fail
 rw[abF];go_wp2_with fail
 (go_at_call 152)
 refine(cw (HD.out.off ((ah.refl [] w).alloc _) (by simp)) 1 b 0 HB.out yw.out).mono ?_;rintro e w2 ⟨rfl,rfl⟩;go_wp2_with fail
 rw[abF];go_wp2_with fail
 (go_at_call 153)
 refine(HN.out _ (HR.out.below ((BY _ w).alloc (AS _) _))).mono ?_;rintro e w3 ⟨rfl,aN⟩;have tq:=sh (ae (Bk.new w 234 #[.string a,.string b]) aN);have vP:=sh (((BY _ w).alloc (AS _) (.cells #[.string a,.string b] 234)).trans (aN.mono (by simp)));clear aN;go_wp2_with fail
 go_quiet (fail)
 go_wp2_with fail
 go_ret2
 exact jn HO.out (by decide) (below_drewN (vP.out.alloc vP.out.size _) _)
theorem lK{g:Nat}{S:List Nat}{D:DevS}{w:AI}(hd:Dev w g S D)(n:Nat):aaf prog 151 #[ptr g] (w.drewN n) fun e w''=>e= .returned (.int .i64 (D.sec.length:Int))/\∃m,w''=w.drewN m:=
 (xp (hd.drewN n)).mono fun _ _ ⟨he,hw⟩=>⟨he,n,hw.symm⟩
theorem Jx{g:Nat}{S:List Nat}{D:DevS}{w:AI}(hd:Dev w g S D)(hr:aS w)(hb:D.steps<=1000000000){a b:ByteArray}(ha:D.read 0=(a,0))(ar:D.read 1=(b,0))(hu:cF (ib a b)=true)(hl:(D.sec.length:Int)/4<fx (ib a b)):
  aaf prog 99 #[ptr g] w (iA g D w):=by
 have HO:Hid (dQ D=4):=show _=_ by
  unfold dQ;rw[ha,ar,if_neg (by simp),if_neg (by simp),if_neg (by simp only;omega)]
 have HB:=sh hb;have HD:=sh hd;have HR:=sh hr;have HA:=sh ha;have yw:=sh ar;obtain⟨q,hq⟩:∃q,NI a b=q:=⟨_,rfl⟩;have u6:dV (ib a b)=0:=by unfold dV;rw[hu];rfl
 have HN:=sh (mP (a:=a) (b:=b) rfl rfl rfl rfl rfl hq u6);generalize eD (ib a b)=t at *;generalize ij (ib a b)=r at *;generalize ie (ib a b)=f at *;generalize ig (ib a b)=p at *;generalize fx (ib a b)=l at *;have k0:(0:Int)<=(D.sec.length:Int):=by omega
 obtain⟨n4,kc⟩:∃n4,n4=(D.sec.length:Int)/4:=⟨_,rfl⟩;rw[<-kc]at hl;have k1:(D.sec.length:Int)/4=n4:=kc.symm;have k2:(D.sec.length:Int).tdiv 4=n4:=by rw[afh (by omega)];exact k1
 have k3:decide (n4<l)=true:=by simp;omega
 have k4:IntKind.i64.wrap n4=n4:=acq _ (by have:=hd.ok.most;omega);clear hu u6 hq kc;clear hd hb ha ar hr;go_enter func99,ntmps99
 go_wp2_with fail
 refine abP 3 ?_;rw[abF];go_wp2_with fail
 (go_at_call 152)
 refine(cw (HD.out.off ((ah.refl [] w).alloc _) (by simp)) 0 a 0 HB.out HA.out).mono ?_;rintro e w2 ⟨rfl,rfl⟩;go_wp2_with fail
 rw[abF];go_wp2_with fail
 (go_at_call 152)
 refine(cw (HD.out.off ((ah.refl [] w).alloc _) (by simp)) 1 b 0 HB.out yw.out).mono ?_;rintro e w2 ⟨rfl,rfl⟩;go_wp2_with fail
 rw[abF];go_wp2_with fail
 (go_at_call 153)
 refine(HN.out _ (HR.out.below ((BY _ w).alloc (AS _) _))).mono ?_;rintro e w3 ⟨rfl,aN⟩;have tq:=sh (ae (Bk.new w 234 #[.string a,.string b]) aN);have vP:=sh (((BY _ w).alloc (AS _) (.cells #[.string a,.string b] 234)).trans (aN.mono (by simp)));clear aN;have TZ:=sh ((HD.out.off (ah.af vP.out []) (by simp)).off ((ah.refl [] w3).alloc (.cells #[.int .i64 t,.int .i64 r,.int .i64 f,.int .i64 p,.int .i64 l] 40)) (by simp));go_wp2_with fail
 go_quiet ((go_at_call 151;exact lK TZ.out _))
 go_wp2_with fail
 go_ret2
 exact jn HO.out (by decide) (below_drewN (vP.out.alloc vP.out.size _) _)
theorem vz{s:ByteArray}{t r f p l e:Int}(ht:eD s=t)(hr:ij s=r)(hf:ie s=f)(hp:ig s=p)(hl:fx s=l)(he:dV s=e)(W:AI)(hW:aS W):
  aaf prog 154 #[.string s] W (fun en w'=>en= .returned (.tuple #[.agg #[.int .i64 t,.int .i64 r,.int .i64 f,.int .i64 p,.int .i64 l],.int .i64 e])/\IT W.heap.size W w'):=by
 have h:=mq s W hW;unfold cC jm at h;rw[ht,hr,hf,hp,hl,he]at h;exact h
theorem Bk.jT{w:AI}{g:Nat}{t:TypeId}{c0 c1 c2 c3 c4 c5 c6 c7 c8 c9 Ii Da rY vS:No}(h:Bk w g t #[c0,c1,c2,c3,c4,c5,c6,c7,c8,c9,Ii,Da,rY,vS]):
  w.cell? ⟨g,0,none⟩=some c0/\w.cell? ⟨g,1,none⟩=some c1/\w.cell? ⟨g,2,none⟩=some c2/\w.cell? ⟨g,3,none⟩=some c3/\w.cell? ⟨g,4,none⟩=some c4/\w.cell? ⟨g,5,none⟩=some c5/\w.cell? ⟨g,6,none⟩=some c6/\w.cell? ⟨g,7,none⟩=some c7/\w.cell? ⟨g,8,none⟩=some c8/\w.cell? ⟨g,9,none⟩=some c9/\w.cell? ⟨g,10,none⟩=some Ii/\w.cell? ⟨g,11,none⟩=some Da/\w.cell? ⟨g,12,none⟩=some rY/\w.cell? ⟨g,13,none⟩=some vS:=
 ⟨by simpa using h.cell 0,by simpa using h.cell 1,by simpa using h.cell 2,by simpa using h.cell 3,by simpa using h.cell 4,by simpa using h.cell 5,by simpa using h.cell 6,by simpa using h.cell 7,by simpa using h.cell 8,by simpa using h.cell 9,by simpa using h.cell 10,by simpa using h.cell 11,by simpa using h.cell 12,by simpa using h.cell 13⟩
theorem zw{w:AI}{q g:Nat}{P:eK}(hb:Bk w q 188 (gB g P.m P.o P.both (.pointer none) (.slice none 0 0)))(hs:P.bA=none)(hl:P.log=[]):Pg w q [q] g P:=by
 refine⟨.pointer none,.slice none 0 0,hb,by rw[hs];rfl,by rw[hl];exact⟨rfl,.inl ⟨rfl,rfl⟩⟩,⟨by simp,fun b h=>by simp[Value.ownBlock]at h⟩,fun b h=> ?_⟩;simp at h;subst h;exact hb.lt
theorem NL{g:Nat}{S:List Nat}{D:DevS}{w:AI}(hd:Dev w g S D)(hr:aS w)(hb:D.steps<=1000000000){a b:ByteArray}(ha:D.read 0=(a,0))(ar:D.read 1=(b,0))(hu:cF (ib a b)=true)(hl:fx (ib a b)<=(D.sec.length:Int)/4)(hw:Dq a b=true):
  aaf prog 99 #[ptr g] w (iA g D w):=by
 have HO:Hid (dQ D=0):=show _=_ by
  unfold dQ;rw[ha,ar,if_neg (by simp),if_neg (by simp),if_pos ⟨hu,hl⟩]
 have MK:kQ D=⟨wT (ib a b),wT a,cF a,none,[]⟩:=by
  unfold kQ Cz;rw[ha,ar,hw];rfl
 have HB:=sh hb;have HD:=sh hd;have HR:=sh hr;have HA:=sh ha;have yw:=sh ar;have hq:NI a b=1:=by unfold NI;rw[hw];rfl
 have u6:dV (ib a b)=0:=by unfold dV;rw[hu];rfl
 have HN:=sh (mP (a:=a) (b:=b) rfl rfl rfl rfl rfl hq u6);have HU:=sh (vz (s:=a) rfl rfl rfl rfl rfl rfl);have QP:dV a=0/\cF a=true\/dV a=4/\cF a=false:=kH a;unfold wT at MK;have hz:cF a=false->eD a=0/\ij a=0/\ie a=0/\ig a=0/\fx a=0:=fun h=>by obtain⟨h1,h2,h3,h4,h5,_⟩:=vw h;exact⟨h1,h2,h3,h4,h5⟩
 generalize cF a=ub at *;generalize eD (ib a b)=t at *;generalize ij (ib a b)=r at *;generalize ie (ib a b)=f at *;generalize ig (ib a b)=p at *;generalize fx (ib a b)=l at *;generalize eD a=t2 at *;generalize ij a=r2 at *;generalize ie a=f2 at *;generalize ig a=p2 at *;generalize fx a=l2 at *;generalize dV a=e2 at *;have Yq:=sh MK;have HZ:=sh hz;clear hz;have k0:(0:Int)<=(D.sec.length:Int):=by omega
 obtain⟨n4,kc⟩:∃n4,n4=(D.sec.length:Int)/4:=⟨_,rfl⟩;rw[<-kc]at hl;have k1:(D.sec.length:Int)/4=n4:=kc.symm;have k2:(D.sec.length:Int).tdiv 4=n4:=by rw[afh (by omega)];exact k1
 have k3:decide (n4<l)=false:=by simp;omega
 have k4:IntKind.i64.wrap n4=n4:=acq _ (by have:=hd.ok.most;omega);have HEC:=sh QP;clear hu u6 hq kc MK QP hw;clear hd hb ha ar hr;go_enter func99,ntmps99
 go_wp2_with fail
 refine abP 3 ?_;rw[abF];go_wp2_with fail
 (go_at_call 152)
 refine(cw (HD.out.off ((ah.refl [] w).alloc _) (by simp)) 0 a 0 HB.out HA.out).mono ?_;rintro e w2 ⟨rfl,rfl⟩;go_wp2_with fail
 rw[abF];go_wp2_with fail
 (go_at_call 152)
 refine(cw (HD.out.off ((ah.refl [] w).alloc _) (by simp)) 1 b 0 HB.out yw.out).mono ?_;rintro e w2 ⟨rfl,rfl⟩;go_wp2_with fail
 rw[abF];go_wp2_with fail
 (go_at_call 153)
 refine(HN.out _ (HR.out.below ((BY _ w).alloc (AS _) _))).mono ?_;rintro e w3 ⟨rfl,aN⟩;have tq:=sh (ae (Bk.new w 234 #[.string a,.string b]) aN);have vP:=sh (((BY _ w).alloc (AS _) (.cells #[.string a,.string b] 234)).trans (aN.mono (by simp)));clear aN;have TZ:=sh ((HD.out.off (ah.af vP.out []) (by simp)).off ((ah.refl [] w3).alloc (.cells #[.int .i64 t,.int .i64 r,.int .i64 f,.int .i64 p,.int .i64 l] 40)) (by simp));go_wp2_with fail
 go_quiet ((go_at_call 151;exact lK TZ.out _))
 have uo:w.heap.size<w3.heap.size:=tq.out.lt;have aeK:w3.cell? ⟨w.heap.size,0,none⟩=some (.string a):=by simpa using tq.out.cell 0
 have ZG:w3.cell? ⟨w.heap.size,1,none⟩=some (.string b):=by simpa using tq.out.cell 1
 go_wp2_with fail
 (go_at_call 154)
 have zN:Bk (((w3.alloc (.cells #[.int .i64 t,.int .i64 r,.int .i64 f,.int .i64 p,.int .i64 l] 40)).drewN nq).alloc (.cells (gB g ⟨t,r,f,p,l⟩ aR.zero false (.pointer none) (.slice none 0 0)) 188)) (w3.heap.size+1) 188 (gB g ⟨t,r,f,p,l⟩ aR.zero false (.pointer none) (.slice none 0 0)):=xj _ _ _ _ (by simp);have HBQ:=sh zN;have Hu:Hid (IT w.heap.size w (((w3.alloc (.cells #[.int .i64 t,.int .i64 r,.int .i64 f,.int .i64 p,.int .i64 l] 40)).drewN nq).alloc (.cells (gB g ⟨t,r,f,p,l⟩ aR.zero false (.pointer none) (.slice none 0 0)) 188))):=e8 (below_drewN (e8 vP.out _) _) _;clear zN;refine(HU.out _ (HR.out.below Hu.out)).mono ?_;rintro e w5 ⟨rfl,cV⟩;have rU:=sh (ae HBQ.out cV);have YR:=sh (Hu.out.trans (cV.mono Hu.out.size));have afn:w3.heap.size+1<w5.heap.size:=rU.out.lt;clear cV;obtain⟨c0,c1,c2,c3,c4,c5,c6,c7,c8,c9,Ii,Da,rY,vS⟩:=rU.out.jT;have g6:=rU.out.frozen 6;have g7:=rU.out.frozen 7;have g8:=rU.out.frozen 8;have g9:=rU.out.frozen 9;have g10:=rU.out.frozen 10;have g11:=rU.out.frozen 11;rcases HEC.out with⟨rfl,M5⟩|⟨rfl,M5⟩
 ·have P7:=sh M5
  clear M5;go_wp2_with fail
  go_ret2
  have aT:=((((((rU.out.put 6 (.int .i64 t2)).put 7 (.int .i64 r2)).put 8 (.int .i64 f2)).put 9 (.int .i64 p2)).put 10 (.int .i64 l2)).put 11 (.bool true)).alloc (.cells #[.int .i64 t2,.int .i64 r2,.int .i64 f2,.int .i64 p2,.int .i64 l2] 40);have hle:w.heap.size<=w3.heap.size+1:=by have:=vP.out.size;omega
  refine⟨e8 ((((((YR.out.setCell hle _).setCell hle _).setCell hle _).setCell hle _).setCell hle _).setCell hle _) _,.inr ⟨HO.out,w3.heap.size+1,hle,rfl,?_⟩⟩;rw[Yq.out,P7.out];exact zw aT rfl rfl
 ·have P7:=sh M5
  clear M5;go_wp2_with fail
  go_ret2
  have aT:=rU.out.alloc (.cells #[.int .i64 t2,.int .i64 r2,.int .i64 f2,.int .i64 p2,.int .i64 l2] 40);have hle:w.heap.size<=w3.heap.size+1:=by have:=vP.out.size;omega
  refine⟨e8 YR.out _,.inr ⟨HO.out,w3.heap.size+1,hle,rfl,?_⟩⟩;rw[Yq.out,P7.out];obtain⟨z1,z2,z3,z4,z5⟩:=HZ.out P7.out;rw[z1,z2,z3,z4,z5]at aT |-;exact zw aT rfl rfl
theorem NM{g:Nat}{S:List Nat}{D:DevS}{w:AI}(hd:Dev w g S D)(hr:aS w)(hb:D.steps<=1000000000){a b:ByteArray}(ha:D.read 0=(a,0))(ar:D.read 1=(b,0))(hu:cF (ib a b)=true)(hl:fx (ib a b)<=(D.sec.length:Int)/4)(hw:Dq a b=false):
  aaf prog 99 #[ptr g] w (iA g D w):=by
 have HO:Hid (dQ D=0):=show _=_ by
  unfold dQ;rw[ha,ar,if_neg (by simp),if_neg (by simp),if_pos ⟨hu,hl⟩]
 have MK:kQ D=⟨wT (ib a b),wT b,cF b,none,[]⟩:=by
  unfold kQ Cz;rw[ha,ar,hw];rfl
 have HB:=sh hb;have HD:=sh hd;have HR:=sh hr;have HA:=sh ha;have yw:=sh ar;have hq:NI a b=0:=by unfold NI;rw[hw];rfl
 have u6:dV (ib a b)=0:=by unfold dV;rw[hu];rfl
 have HN:=sh (mP (a:=a) (b:=b) rfl rfl rfl rfl rfl hq u6);have HU:=sh (vz (s:=b) rfl rfl rfl rfl rfl rfl);have QP:dV b=0/\cF b=true\/dV b=4/\cF b=false:=kH b;unfold wT at MK;have hz:cF b=false->eD b=0/\ij b=0/\ie b=0/\ig b=0/\fx b=0:=fun h=>by obtain⟨h1,h2,h3,h4,h5,_⟩:=vw h;exact⟨h1,h2,h3,h4,h5⟩
 generalize cF b=ub at *;generalize eD (ib a b)=t at *;generalize ij (ib a b)=r at *;generalize ie (ib a b)=f at *;generalize ig (ib a b)=p at *;generalize fx (ib a b)=l at *;generalize eD b=t2 at *;generalize ij b=r2 at *;generalize ie b=f2 at *;generalize ig b=p2 at *;generalize fx b=l2 at *;generalize dV b=e2 at *;have Yq:=sh MK;have HZ:=sh hz;clear hz;have k0:(0:Int)<=(D.sec.length:Int):=by omega
 obtain⟨n4,kc⟩:∃n4,n4=(D.sec.length:Int)/4:=⟨_,rfl⟩;rw[<-kc]at hl;have k1:(D.sec.length:Int)/4=n4:=kc.symm;have k2:(D.sec.length:Int).tdiv 4=n4:=by rw[afh (by omega)];exact k1
 have k3:decide (n4<l)=false:=by simp;omega
 have k4:IntKind.i64.wrap n4=n4:=acq _ (by have:=hd.ok.most;omega);have HEC:=sh QP;clear hu u6 hq kc MK QP hw;clear hd hb ha ar hr;go_enter func99,ntmps99
 go_wp2_with fail
 refine abP 3 ?_;rw[abF];go_wp2_with fail
 (go_at_call 152)
 refine(cw (HD.out.off ((ah.refl [] w).alloc _) (by simp)) 0 a 0 HB.out HA.out).mono ?_;rintro e w2 ⟨rfl,rfl⟩;go_wp2_with fail
 rw[abF];go_wp2_with fail
 (go_at_call 152)
 refine(cw (HD.out.off ((ah.refl [] w).alloc _) (by simp)) 1 b 0 HB.out yw.out).mono ?_;rintro e w2 ⟨rfl,rfl⟩;go_wp2_with fail
 rw[abF];go_wp2_with fail
 (go_at_call 153)
 refine(HN.out _ (HR.out.below ((BY _ w).alloc (AS _) _))).mono ?_;rintro e w3 ⟨rfl,aN⟩;have tq:=sh (ae (Bk.new w 234 #[.string a,.string b]) aN);have vP:=sh (((BY _ w).alloc (AS _) (.cells #[.string a,.string b] 234)).trans (aN.mono (by simp)));clear aN;have TZ:=sh ((HD.out.off (ah.af vP.out []) (by simp)).off ((ah.refl [] w3).alloc (.cells #[.int .i64 t,.int .i64 r,.int .i64 f,.int .i64 p,.int .i64 l] 40)) (by simp));go_wp2_with fail
 go_quiet ((go_at_call 151;exact lK TZ.out _))
 have uo:w.heap.size<w3.heap.size:=tq.out.lt;have aeK:w3.cell? ⟨w.heap.size,0,none⟩=some (.string a):=by simpa using tq.out.cell 0
 have ZG:w3.cell? ⟨w.heap.size,1,none⟩=some (.string b):=by simpa using tq.out.cell 1
 go_wp2_with fail
 (go_at_call 154)
 have zN:Bk (((w3.alloc (.cells #[.int .i64 t,.int .i64 r,.int .i64 f,.int .i64 p,.int .i64 l] 40)).drewN nq).alloc (.cells (gB g ⟨t,r,f,p,l⟩ aR.zero false (.pointer none) (.slice none 0 0)) 188)) (w3.heap.size+1) 188 (gB g ⟨t,r,f,p,l⟩ aR.zero false (.pointer none) (.slice none 0 0)):=xj _ _ _ _ (by simp);have HBQ:=sh zN;have Hu:Hid (IT w.heap.size w (((w3.alloc (.cells #[.int .i64 t,.int .i64 r,.int .i64 f,.int .i64 p,.int .i64 l] 40)).drewN nq).alloc (.cells (gB g ⟨t,r,f,p,l⟩ aR.zero false (.pointer none) (.slice none 0 0)) 188))):=e8 (below_drewN (e8 vP.out _) _) _;clear zN;refine(HU.out _ (HR.out.below Hu.out)).mono ?_;rintro e w5 ⟨rfl,cV⟩;have rU:=sh (ae HBQ.out cV);have YR:=sh (Hu.out.trans (cV.mono Hu.out.size));have afn:w3.heap.size+1<w5.heap.size:=rU.out.lt;clear cV;obtain⟨c0,c1,c2,c3,c4,c5,c6,c7,c8,c9,Ii,Da,rY,vS⟩:=rU.out.jT;have g6:=rU.out.frozen 6;have g7:=rU.out.frozen 7;have g8:=rU.out.frozen 8;have g9:=rU.out.frozen 9;have g10:=rU.out.frozen 10;have g11:=rU.out.frozen 11;rcases HEC.out with⟨rfl,M5⟩|⟨rfl,M5⟩
 ·have P7:=sh M5
  clear M5;go_wp2_with fail
  go_ret2
  have aT:=((((((rU.out.put 6 (.int .i64 t2)).put 7 (.int .i64 r2)).put 8 (.int .i64 f2)).put 9 (.int .i64 p2)).put 10 (.int .i64 l2)).put 11 (.bool true)).alloc (.cells #[.int .i64 t2,.int .i64 r2,.int .i64 f2,.int .i64 p2,.int .i64 l2] 40);have hle:w.heap.size<=w3.heap.size+1:=by have:=vP.out.size;omega
  refine⟨e8 ((((((YR.out.setCell hle _).setCell hle _).setCell hle _).setCell hle _).setCell hle _).setCell hle _) _,.inr ⟨HO.out,w3.heap.size+1,hle,rfl,?_⟩⟩;rw[Yq.out,P7.out];exact zw aT rfl rfl
 ·have P7:=sh M5
  clear M5;go_wp2_with fail
  go_ret2
  have aT:=rU.out.alloc (.cells #[.int .i64 t2,.int .i64 r2,.int .i64 f2,.int .i64 p2,.int .i64 l2] 40);have hle:w.heap.size<=w3.heap.size+1:=by have:=vP.out.size;omega
  refine⟨e8 YR.out _,.inr ⟨HO.out,w3.heap.size+1,hle,rfl,?_⟩⟩;rw[Yq.out,P7.out];obtain⟨z1,z2,z3,z4,z5⟩:=HZ.out P7.out;rw[z1,z2,z3,z4,z5]at aT |-;exact zw aT rfl rfl
theorem NK{g:Nat}{S:List Nat}{D:DevS}{w:AI}(hd:Dev w g S D)(hr:aS w)(hb:D.steps<=1000000000):
  aaf prog 99 #[ptr g] w (iA g D w):=by
 rcases Fb D with h|h|⟨a,b,ha,ar⟩
 ·exact xX hd hb (.inl h)
 ·exact xX hd hb (.inr h)
 ·cases hu:cF (ib a b)with
  | false=>exact Jw hd hr hb ha ar hu
  | true=>
   by_cases hl:fx (ib a b)<=(D.sec.length:Int)/4
   ·cases hw:Dq a b with
    | true=>exact NL hd hr hb ha ar hu hl hw
    | false=>exact NM hd hr hb ha ar hu hl hw
   ·exact Jx hd hr hb ha ar hu (by omega)
end Go.Proofs.YtjbcbnemdhbhbaaGreatDoor
namespace Go.Proofs.YtjbcbnemdhbhbaaGreatDoor
open Go.Proofs.Tryz
open Go.PlainAid
def oS (limit:Int):aR:=⟨0,0,0,1,limit⟩
def oT (limit:Int):aR:=⟨1,0,0,1,limit⟩
theorem yU{limit:Int}(h:4<=limit/\limit<=512):(oS limit).ok=true:=show cL 0 0 0 1 limit=true from qE (by omega)
theorem yV{limit:Int}(h:4<=limit/\limit<=512):(oT limit).ok=true:=show cL 1 0 0 1 limit=true from qE (by omega)
def b7 (n:Nat) (limit:Int):DevS:=⟨(List.range n).map fun i=>if i=0 then (oS limit).bytes else if i=1 then (oT limit).bytes else DevS.bw,[],false,0,3,2⟩
theorem rR{d:DevS}{i:Int}{s:ByteArray}(ho:d.off=false)(hf:d.cy=0)(hi:d.ny i=true)(hs:s.size=128):
  d.write i s=({ d with row:=d.row++[(i.toNat,s)],steps:=d.steps+1,writes:=d.writes+1 },0):=by
 obtain⟨sec,row,off,cy,steps,writes⟩:=d;simp only at ho hf;subst ho;subst hf;unfold DevS.write;rw[hi,hs];rfl
theorem ue{n:Nat}{limit:Int}(h:4<=limit/\limit<=512)(hn:4*limit<=(n:Int)):eR (DevS.new n) limit=(b7 n limit,0):=by
 have e0:dq 0 0 0 1 limit=(oS limit).bytes:=rfl;have e1:dq 1 0 0 1 limit=(oT limit).bytes:=rfl;have s0:=aR.size (yU h);have s1:=aR.size (yV h);have l0:(DevS.new n).sec.length=n:=by simp[DevS.new]
 have w0:(DevS.new n).write 0 (oS limit).bytes=(⟨(DevS.new n).sec,[(0,(oS limit).bytes)],false,0,1,1⟩,0):=rR rfl rfl (DevS.gM.2 ⟨by omega,by rw[l0];omega⟩) s0;have w1:(⟨(DevS.new n).sec,[(0,(oS limit).bytes)],false,0,1,1⟩:DevS).write 1 (oT limit).bytes=(⟨(DevS.new n).sec,[(0,(oS limit).bytes),(1,(oT limit).bytes)],false,0,2,2⟩,0):=rR rfl rfl (DevS.gM.2 ⟨by omega,by simp only;rw[l0];omega⟩) s1;unfold eR;rw[if_pos ⟨h.1,h.2,by rw[l0];exact hn⟩,e0,e1,w0];simp only[ne_eq,not_true,if_false];rw[w1];simp only[not_true,if_false];unfold DevS.sync;rw[show (⟨(DevS.new n).sec,[(0,(oS limit).bytes),(1,(oT limit).bytes)],false,0,2,2⟩:DevS).ee=true from rfl,if_pos rfl];refine Prod.ext ?_ rfl;show DevS.synced (⟨(DevS.new n).sec,[(0,(oS limit).bytes),(1,(oT limit).bytes)],false,0,3,2⟩:DevS)=_;unfold DevS.synced b7;simp only[l0]
 congr 1
 refine List.map_congr_left (fun i hi=> ?_);have hi':i<n:=List.mem_range.1 hi;unfold DevS.aF DevS.waits bc;by_cases h0:i=0
 ·subst h0
  simp
 ·by_cases h1:i=1
  ·subst h1
   simp
  ·have h0':(0==i)=false:=by simpa using fun e=>h0 e.symm
   have h1':(1==i)=false:=by simpa using fun e=>h1 e.symm
   simp[h0,h1,h0',h1',DevS.new,hi']
theorem uZ{d:DevS}{i:Nat}(ho:d.off=false)(hr:d.row=[])(hi:i<d.sec.length):d.read (i:Int)=(d.sec[i],0):=by
 unfold DevS.read;rw[DevS.gM.2 ⟨by omega,by omega⟩,ho,if_pos rfl,if_neg (by simp),Int.toNat_natCast];have:d.aF i=d.sec[i]:=by
  unfold DevS.aF DevS.waits;rw[hr];simp[bc,hi]
 rw[this]
theorem LW{n:Nat}{limit:Int}(hn:2<=n):(b7 n limit).read 0=((oS limit).bytes,0)/\(b7 n limit).read 1=((oT limit).bytes,0):=by
 have l:(b7 n limit).sec.length=n:=by simp[b7]
 have h0:=uZ (d:=b7 n limit) (i:=0) rfl rfl (by omega);have h1:=uZ (d:=b7 n limit) (i:=1) rfl rfl (by omega);refine⟨h0.trans ?_,h1.trans ?_⟩
 ·simp[b7]
 ·simp[b7]
theorem D8{limit:Int}(h:4<=limit/\limit<=512):Dq (oS limit).bytes (oT limit).bytes=true:=by
 obtain⟨a0,b0⟩:=ti (yU h);obtain⟨a1,b1⟩:=ti (yV h);have t0:eD (oS limit).bytes=0:=congrArg aR.t b0;have t1:eD (oT limit).bytes=1:=congrArg aR.t b1;unfold Dq;rw[a1,t0,t1];simp
def qU (limit:Int):eK:=⟨oT limit,oS limit,true,none,[]⟩
theorem AW{n:Nat}{limit:Int}(h:4<=limit/\limit<=512)(hn:4*limit<=(n:Int)):dQ (b7 n limit)=0/\kQ (b7 n limit)=qU limit:=by
 obtain⟨r0,r1⟩:=LW (n:=n) (limit:=limit) (by omega);obtain⟨a0,b0⟩:=ti (yU h);obtain⟨a1,b1⟩:=ti (yV h);have hw:=D8 h;have hs:ib (oS limit).bytes (oT limit).bytes=(oT limit).bytes:=by unfold ib;rw[hw];rfl
 have l:(b7 n limit).sec.length=n:=by simp[b7]
 have hl:fx (oT limit).bytes=limit:=congrArg aR.l b1;constructor
 ·unfold dQ
  rw[r0,r1,if_neg (by simp),if_neg (by simp),hs,if_pos ⟨a1,by rw[hl,l];omega⟩]
 ·unfold kQ Cz qU
  rw[r0,r1,hs,hw,b1];simp only[if_true];rw[a0,b0]
end Go.Proofs.YtjbcbnemdhbhbaaGreatDoor
namespace Go.Proofs.YtjbcbnemdhbhbaaGreatDoor
open Go.Proofs.Tryz
open Go.RowKit
open Go.PlainAid
def xb (m:aR) (w:AI) (e:Ending) (w':AI):Prop:=e= .returned (.agg #[.int .i64 m.t,.int .i64 m.r,.int .i64 m.f,.int .i64 m.p,.int .i64 m.l])/\IT w.heap.size w w'
theorem mU{w:AI}{q:Nat}{T:List Nat}{g:Nat}{P:eK}(h:Pg w q T g P):
  aaf prog 55 #[.pointer (some ⟨q,0,none⟩)] w (xb P.m w):=by
 obtain⟨sl,lg,h⟩:=h;obtain⟨c0,c1,c2,c3,c4,c5,c6,c7,c8,c9,Ii,Da,rY,vS⟩:=h.cells.jT;have aH:=h.cells.lt;clear h;go_enter func55,ntmps55
 go_wp2_with fail
 exact bodyPost_ret (v:= .agg #[.int .i64 P.m.t,.int .i64 P.m.r,.int .i64 P.m.f,.int .i64 P.m.p,.int .i64 P.m.l]) (by simp[results,results55,go_sem]) rfl ⟨rfl,(BY _ w).alloc (AS _) _⟩
theorem xA{g:Nat}{S:List Nat}{D D':DevS}{w:AI}(hd:Dev w g S D)(limit:Int)(hr:aS w)(hS:0∉S)(hb:D.steps<=999999990)(h:4<=limit/\limit<=512/\4*limit<=(D.sec.length:Int))(r:Int)(hf:eR D limit=(D',r)):
  aaf prog 98 #[ptr g,.int .i64 limit] w (gv g S D' (.int .i64 r) w):=by
 have h1:=IG hd limit hr hS hb h;rw[hf]at h1;exact h1
def Hw (g:Nat) (P:eK) (w:AI) (e:Ending) (w':AI):Prop:=
 ∃q,w.heap.size<=q/\e= .returned (.tuple #[.pointer (some ⟨q,0,none⟩),.int .i64 0])/\Pg w' q [q] g P/\IT w.heap.size w w'
theorem GZ{g:Nat}{S:List Nat}{D:DevS}{P:eK}{w:AI}(hd:Dev w g S D)(hr:aS w)(hb:D.steps<=1000000000)(h0:dQ D=0)(hP:kQ D=P):
  aaf prog 99 #[ptr g] w (Hw g P w):=by
 refine(NK hd hr hb).mono ?_;rintro e w' ⟨hb,⟨h1,_⟩|⟨_,q,h2,h3,h4⟩⟩
 ·exact absurd h0 h1
 ·exact⟨q,h2,h3,by rw[<-hP];exact h4,hb⟩
structure Made (w w':AI) (g q:Nat) (S T:List Nat) (D:DevS) (P:eK):Prop where
 dev:Dev w' g S D
 pg:Pg w' q T g P
 bel:IT w.heap.size w w'
 amZ:∀b∈S,w.heap.size<=b
 am0:∀b∈T,w.heap.size<=b
 apart:∀b∈T,b∉S
theorem Cr{g:Nat}{S:List Nat}{D':DevS}{w0 w w':AI}(hb:IT w0.heap.size w0 w)(hS:∀b∈S,w0.heap.size<=b)(h:∃S',Dev w' g S' D'/\ah S w w'/\aj w S S'):
  ∃S',Dev w' g S' D'/\IT w0.heap.size w0 w'/\∀b∈S',w0.heap.size<=b:=by
 obtain⟨S',h1,h2,h3⟩:=h;exact⟨S',h1,hb.trans (h2.below hb.size hS),fun b vX=>(h3 b vX).elim (hS b) (fun h=>abw hb.size h)⟩
theorem Ha{w:AI}(h:aS w){S:List Nat}(hS:∀b∈S,w.heap.size<=b):0∉S:=fun hx=>by
 have:=hS _ hx;have:=h.lt;omega
end Go.Proofs.YtjbcbnemdhbhbaaGreatDoor
namespace Go.Proofs.YtjbcbnemdhbhbaaGreatDoor
open Go.Proofs.Tryz
open Go.RowKit
structure Db (w:AI) (b q r f g:Nat) (P:eK) (s:St):Prop where
 top:Bk w b 99 #[.pointer (some ⟨q,0,none⟩),.pointer (some ⟨r,0,none⟩),.pointer (some ⟨f,0,none⟩),.slice none 0 0,.pointer none]
 pg:Pg w q [q] g P
 rd:Bk w r 195 s.cells
 fr:∃sP,Bk w f 165 sP/\sP[0]? =some (.slice none 0 0)
theorem Db.off{w w':AI}{b q r f g:Nat}{P:eK}{s:St}{U:List Nat}(h:Db w b q r f g P s)(ho:ah U w w')(hU:∀x∈[b,q,r,f],x∉U):Db w' b q r f g P s:=by
 obtain⟨sP,h1,h2⟩:=h.fr;exact⟨ho.bk h.top (hU b (by simp)),h.pg.off ho (fun x hx=>by rw[IN]at hx;subst hx;exact hU x (by simp)),ho.bk h.rd (hU r (by simp)),sP,ho.bk h1 (hU f (by simp)),h2⟩
theorem Db.below{w w':AI}{b q r f g:Nat}{P:eK}{s:St}(h:Db w b q r f g P s)(hb:IT w.heap.size w w'):Db w' b q r f g P s:=h.off (ah.af hb []) (by simp)
theorem Db.zv{w:AI}{b q r f g:Nat}{P:eK}{s:St}(h:Db w b q r f g P s):∃cs,Bk w q 188 cs:=by
 obtain⟨sl,lg,hp⟩:=h.pg;exact⟨_,hp.cells⟩
theorem Db.ner{w:AI}{b q r f g:Nat}{P:eK}{s:St}(h:Db w b q r f g P s):b≠r/\q≠r/\f≠r:=by
 obtain⟨cs,hp⟩:=h.zv;obtain⟨sP,h1,-⟩:=h.fr;exact⟨h.top.ne h.rd (by decide),hp.ne h.rd (by decide),h1.ne h.rd (by decide)⟩
theorem Db.mV{w w':AI}{b q r f g:Nat}{P:eK}{s s':St}(h:Db w b q r f g P s)(ho:ah [r] w w')(hr:Bk w' r 195 s'.cells):Db w' b q r f g P s':=by
 obtain⟨n1,n2,n3⟩:=h.ner;obtain⟨sP,h1,h2⟩:=h.fr;exact⟨ho.bk h.top (by simpa using n1),h.pg.off ho (fun x hx=>by rw[IN]at hx;subst hx;simpa using n2),hr,sP,ho.bk h1 (by simpa using n3),h2⟩
theorem Nz(t r f p l:Int)(W:AI):Sem.run prog (agF 40 (.agg #[.int .i64 t,.int .i64 r,.int .i64 f,.int .i64 p,.int .i64 l]) 0) W= .ok (.int .i64 t) W:=by
 have h:=underlying40;simp[agF,run_underlying h,part,asAgg,go_sem]
theorem TJ(t r f p l:Int)(W:AI):Sem.run prog (agF 40 (.agg #[.int .i64 t,.int .i64 r,.int .i64 f,.int .i64 p,.int .i64 l]) 2) W= .ok (.int .i64 f) W:=by
 have h:=underlying40;simp[agF,run_underlying h,part,asAgg,go_sem]
theorem Bk.Hd{w:AI}{q:Nat}{t:TypeId}{v0 v1 v2 v3 v4:No}(h:Bk w q t #[v0,v1,v2,v3,v4])(a0 a1 a2 a3 a4:No):
  (w.setCell ⟨q,0,none⟩ a0).cell? ⟨q,0,none⟩=some a0/\((w.setCell ⟨q,0,none⟩ a0).setCell ⟨q,1,none⟩ a1).cell? ⟨q,1,none⟩=some a1/\(((w.setCell ⟨q,0,none⟩ a0).setCell ⟨q,1,none⟩ a1).setCell ⟨q,2,none⟩ a2).cell? ⟨q,2,none⟩=some a2/\
  ((((w.setCell ⟨q,0,none⟩ a0).setCell ⟨q,1,none⟩ a1).setCell ⟨q,2,none⟩ a2).setCell ⟨q,3,none⟩ a3).cell? ⟨q,3,none⟩=some a3/\(((((w.setCell ⟨q,0,none⟩ a0).setCell ⟨q,1,none⟩ a1).setCell ⟨q,2,none⟩ a2).setCell ⟨q,3,none⟩ a3).setCell ⟨q,4,none⟩ a4).cell? ⟨q,4,none⟩=some a4:=by
 have h0:=h.put 0 a0;have h1:=h0.put 1 a1;have h2:=h1.put 2 a2;have h3:=h2.put 3 a3;have h4:=h3.put 4 a4;exact⟨h0.cell 0,h1.cell 1,h2.cell 2,h3.cell 3,h4.cell 4⟩
theorem nS{w:AI}{b q r f g:Nat}{P:eK}{s:St}(h:Db w b q r f g P s):aaf prog 14 #[.pointer (some ⟨b,0,none⟩)] w (xb P.m w):=by
 have c0:=h.top.cell 0;have lb:=h.top.lt;have HP:=sh (mU (h.pg.below ((BY _ w).alloc (AS _) (.cells #[.int .i64 0,.int .i64 0,.int .i64 0,.int .i64 0,.int .i64 0] 40))));clear h;go_enter func14,ntmps14
 go_wp2_with fail
 refine HP.out.mono ?_;rintro e w1 ⟨rfl,ar⟩;have hz:=ae (Bk.new w 40 #[.int .i64 0,.int .i64 0,.int .i64 0,.int .i64 0,.int .i64 0]) ar;have HZ:=sh hz;have HB:=sh (((BY _ w).alloc (AS _) (.cells #[.int .i64 0,.int .i64 0,.int .i64 0,.int .i64 0,.int .i64 0] 40)).trans (ar.mono (by simp)));have lz:=hz.lt;obtain⟨x0,x1,x2,x3,x4⟩:=hz.oR;have y0:=hz.frozen 0;have y1:=hz.frozen 1;have y2:=hz.frozen 2;have y3:=hz.frozen 3;have y4:=hz.frozen 4;clear hz ar;go_wp2_with fail
 obtain⟨s0,s1,s2,s3,s4⟩:=HZ.out.Hd (.int .i64 P.m.t) (.int .i64 P.m.r) (.int .i64 P.m.f) (.int .i64 P.m.p) (.int .i64 P.m.l);refine bodyPost_ret (v:= .agg #[.int .i64 P.m.t,.int .i64 P.m.r,.int .i64 P.m.f,.int .i64 P.m.p,.int .i64 P.m.l]) (by simp[results,results14,go_sem,lz,s0,s1,s2,s3,s4]) rfl ⟨rfl,?_⟩;exact((ah.af HB.out []).then ((((((ah.refl [w.heap.size] w1).setCell (.inl (by simp)) _).setCell (.inl (by simp)) _).setCell (.inl (by simp)) _).setCell (.inl (by simp)) _).setCell (.inl (by simp)) _) (fun x hx=>by rw[IN]at hx;subst hx;exact .inr (AS _))).below (AS _) (by simp)
theorem LV(W:AI):(binOp .eql 49 (.slice none 0 0) (.slice none 0 0)).run prog W= .ok (.bool true) W:=by
 exact run_eql_nil_slice W 49 62 none 0 0 0 0 underlying49
theorem yP(w:AI):aaf prog 102 #[.slice none 0 0] w (fun e w'=>e= .returned (.slice none 0 0)/\IT w.heap.size w w'):=by
 have heq:∀W:AI,(binOp .eql 49 (.slice none 0 0) (.slice none 0 0)).run prog W= .ok (.bool true) W:=fun W=>LV W;go_enter func102,ntmps102
 go_wp2_with fail
 go_ret
 exact⟨rfl,BY _ _⟩
theorem tP{w:AI}{b q r f g:Nat}{P:eK}{s:St}(h:Db w b q r f g P s):aaf prog 21 #[.pointer (some ⟨b,0,none⟩)] w (fun e w'=>e= .returned (.slice none 0 0)/\IT w.heap.size w w'):=by
 have c2:=h.top.cell 2;have lb:=h.top.lt;obtain⟨sP,h1,h2⟩:=h.fr;have f0:=(h1.cell 0).trans h2;have lf:=h1.lt;have HC:=sh fun(W:AI)=>yP W;have HA:Hid (aaf prog 61 #[.pointer (some ⟨f,0,none⟩)] w (fun e w'=>e= .returned (.slice none 0 0)/\IT w.heap.size w w')):=by
  show aaf _ _ _ _ _;clear h h1 h2 c2 lb;go_enter func61,ntmps61
  go_wp2_with fail
  refine(HC.out _).mono ?_;rintro e w1 ⟨rfl,hb⟩;have HB:=sh hb;clear hb;go_wp2_with fail
  go_ret
  exact⟨rfl,HB.out⟩
 clear h h1 h2 f0 lf;go_enter func21,ntmps21
 go_wp2_with fail
 refine HA.out.mono ?_;rintro e w1 ⟨rfl,hb⟩;have HB:=sh hb;clear hb;go_wp2_with fail
 go_ret
 exact⟨rfl,HB.out⟩
def jz (w:AI) (s b:Nat) (i:Int) (m:aR) (over:Bool):Prop:=Bk w s 115 #[.pointer (some ⟨b,0,none⟩),.int .i64 i,.int .i64 m.t,.int .i64 m.r,.int .i64 m.f,.int .i64 m.p,.int .i64 m.l,.slice none 0 0,.bool over]
theorem te{w:AI}{sp b:Nat}{i:Int}{m:aR}(h:jz w sp b i m false):aaf prog 57 #[.pointer (some ⟨sp,0,none⟩)] w (fun e w'=>e= .returned (.int .i64 0)/\w=w'):=by
 have c8:=Bk.cell h 8;have ls:=Bk.lt h;clear h;go_enter func57,ntmps57
 go_wp2_with fail
 go_ret
 exact⟨rfl,rfl⟩
theorem Oq(w:AI):aaf prog 57 #[.pointer none] w (fun e w'=>e= .returned (.int .i64 2)/\w=w'):=by
 go_enter func57,ntmps57
 go_wp2_with fail
 go_ret
 exact⟨rfl,rfl⟩
theorem RU{w:AI}{b q r f g:Nat}{P:eK}{s s':St}{i:Int}(h:Db w b q r f g P s)(hE:s.enter P.m.t=(s',i,0)):aaf prog 15 #[.pointer (some ⟨b,0,none⟩)] w (fun e w'=>∃sp,e= .returned (.tuple #[.pointer (some ⟨sp,0,none⟩),.int .i64 0])/\ah [r] w w'/\Db w' b q r f g P s'/\jz w' sp b i P.m false/\w.heap.size<=sp):=by
 have lb:=h.top.lt;have hf0:=Nz;have HD:=sh h;have HM:=sh (nS (h.below (BY _ w).drew));have Kj:=sh fun(W:AI) (hW:IT w.heap.size w W)=>(show aaf prog 56 #[.pointer (some ⟨r,0,none⟩),.int .i64 P.m.t] W (eA i 0 r s'.cells W) from by have:=xt r P.m.t s W (ae h.rd hW);rw[hE]at this;exact this);have bD:=sh (show ∀W,ah [r] w W->W.cell? ⟨b,1,none⟩=some (.pointer (some ⟨r,0,none⟩)) from fun W hW=>(hW.bk h.top (by have:=h.ner.1;simpa using this)).cell 1);clear h hE;go_enter func15,ntmps15
 go_wp2_with fail
 go_region_held3 (fun W=>W.cell? ⟨b,1,none⟩=some (.pointer (some ⟨r,0,none⟩))) (first|exact bD.out _ (ah.refl _ _).drew|exact bD.out _ dy.out|exact bD.out _ bR.out) (first
  | (go_at_call 14;refine HM.out.mono ?_;rintro e w1 ⟨rfl,ar⟩;have bh:=sh (show IT w.heap.size w w1 from (BY _ w).drew.trans ar);have dy:=sh (ah.af bh.out [r]);clear ar)
  | (go_at_call 56;refine(Kj.out _ bh.out).mono ?_;rintro e w2 ⟨rfl,lW,jZ⟩;have gY:=sh lW;have bR:=sh (dy.out.trans jZ);clear lW jZ))
 all_goals
  have mK:=HD.out.mV bR.out gY.out;have sI:=sh (nS (mK.below (BY _ w2).drew));have vE:=sh mK;have lb2:=mK.top.lt;have kf:=sh (show ∀W,IT w2.heap.size w2 W->W.cell? ⟨b,3,none⟩=some (.slice none 0 0) from fun W hW=>(ae vE.out.top hW).cell 3);clear mK;go_wp2_with fail
  go_region_held3 (fun W=>W.cell? ⟨b,3,none⟩=some (.slice none 0 0)) (first|exact kf.out _ (BY _ _).drew|exact kf.out _ cO.out|exact kf.out _ (cO.out.alloc cO.out.size _)) (first
   | (go_at_call 14;refine sI.out.mono ?_;rintro e w3 ⟨rfl,aN⟩;have cO:=sh (show IT w2.heap.size w2 w3 from (BY _ w2).drew.trans aN);clear aN))
  all_goals
   go_wp2_with fail
   go_ret2
   exact⟨w3.heap.size,rfl,(bR.out.trans (ah.af cO.out [r])).alloc _,(vE.out.below cO.out).off ((ah.refl [] _).alloc _) (by simp),Bk.new w3 _ _,abw bR.out.size cO.out.size⟩
end Go.Proofs.YtjbcbnemdhbhbaaGreatDoor
namespace Go.Proofs.YtjbcbnemdhbhbaaGreatDoor
open Go.Proofs.Tryz
open Go.RowKit
open Go.PlainAid
def jy (g q:Nat) (S T:List Nat) (D':DevS) (P':eK) (r:Int) (w:AI) (e:Ending) (w':AI):Prop:=
 e= .returned (.int .i64 r)/\∃S' T',Dev w' g S' D'/\Pg w' q T' g P'/\(∀b∈T',b∉S')/\ah (S++T) w w'/\aj w S S'/\aj w T T'
theorem ah.left{S T:List Nat}{w w':AI}(h:ah S w w'):ah (S++T) w w':=h.mono (fun x hx=> .inl (By.2 (.inl hx)))
theorem ja{w:AI}{S S' T:List Nat}(h:∀b∈T,b∉S)(hf:aj w S S')(hT:∀b∈T,b<w.heap.size):∀b∈T,b∉S':=fun b hb hs=>by
 rcases hf b hs with h1|h1
 ·exact h b hb h1
 ·have:=hT b hb;omega
theorem Oi{w w0 w2 w3:AI}{g q:Nat}{S S' T:List Nat}{D':DevS}{P:eK}{m:aR}(hp:Pg w q T g P)(jU:∀b∈T,b∉S)(hs:P.bA=none)(hS:∀b∈S,b<w.heap.size)
  (h02:IT w.heap.size w w2) (aT:Bk w2 w.heap.size 40 m.cells) (hd:Dev w3 g S' D') (ho:ah S w2 w3) (hf:aj w2 S S'):
  ∃S' T',Dev (w3.setCell ⟨q,12,none⟩ (.pointer (some ⟨w.heap.size,0,none⟩))) g S' D'/\Pg (w3.setCell ⟨q,12,none⟩ (.pointer (some ⟨w.heap.size,0,none⟩))) q T' g { P with bA:=some m }/\(∀b∈T',b∉S')/\
   ah (S++T) w (w3.setCell ⟨q,12,none⟩ (.pointer (some ⟨w.heap.size,0,none⟩)))/\aj w S S'/\aj w T T':=by
 have hT:=hp.old;obtain⟨sl,lg,h⟩:=hp;have hf':aj w S S':=fun b hb=>(hf b hb).imp_right (abw h02.size);have Mc:=ja jU hf' hT;have hqS:q∉S:=jU q h.zj.1;have Tc:w.heap.size∉S:=fun hx=>by have:=hS _ hx;omega
 have afu:w.heap.size∉S':=fun hx=>by
  rcases hf _ hx with h1|h1
  ·exact Tc h1
  ·have:=aT.lt;omega
 have hO:ah S w w3:=(ah.af h02 S).trans ho;have h3:Hy w3 q T g P sl lg:=h.off hO jU;have O6:ah [q] w3 (w3.setCell ⟨q,12,none⟩ (.pointer (some ⟨w.heap.size,0,none⟩))):=(ah.refl [q] w3).setCell (.inl (by simp)) _;have al4:=h.cells.lt;refine⟨S',w.heap.size::T,hd.off O6 (fun b hb hq=>by simp at hq;subst hq;exact Mc _ h.zj.1 hb),⟨.pointer (some ⟨w.heap.size,0,none⟩),lg,?_⟩,?_,?_,hf',?_⟩
 ·refine⟨h3.cells.put 12 _,⟨w.heap.size,by simp,rfl,O6.bk (ho.bk aT Tc) (by simp;omega)⟩,O6.own h3.log (fun b hb=> ?_),⟨abW _ h.zj.1,fun b hb=>abW _ (h.zj.2 b hb)⟩,?_⟩
  ·have bM:=cz h3.log h3.cells (by decide)
   rw[hb]at bM;simp;exact fun e=>bM (by rw[e])
  ·intro b hb
   have cZ:w.heap.size<(w3.setCell ⟨q,12,none⟩ (.pointer (some ⟨w.heap.size,0,none⟩))).heap.size:=by
    have:=aT.lt;have:=ho.size;have:=O6.size;omega
   rcases OF.1 hb with rfl|hb
   ·exact cZ
   ·have:=hT b hb;omega
 ·intro b hb
  rcases OF.1 hb with rfl|hb
  ·exact afu
  ·exact Mc b hb
 ·exact(hO.left).then O6 (fun x hx=> .inl (by simp at hx;subst hx;exact By.2 (.inr h.zj.1)))
 ·intro b hb
  rcases OF.1 hb with rfl|hb
  ·exact .inr (AS _)
  ·exact .inl hb
theorem Oh{g q:Nat}{S T:List Nat}{D D':DevS}{P:eK}{w:AI}(hd:Dev w g S D)(hp:Pg w q T g P)(jU:∀b∈T,b∉S)(hr:aS w)(hrS:0∉S)(wo:P.bA=none)
  (m:aR) (hm:m.ok=true) (hl:m.l=P.m.l) (ht:m.t=P.m.t+1) (Wg:0<=P.m.t) (hb:D.steps<=1000000000) (r:Int) (hw:D.write (m.t%2) m.bytes=(D',r)):
  aaf prog 53 #[.pointer (some ⟨q,0,none⟩),.agg m.cells] w (jy g q S T D' (if r=0 then { P with bA:=some m } else P) r w):=by
 have HD:=sh hd;have HP:=sh hp;have yx:=sh jU;have HR:=sh hr;have HRS:=sh hrS;have Um:=sh wo;have HB:=sh hb;have O4:Hid (m.bytes.size<=maxLen):=show _<=_ by rw[aR.size hm];decide
 have HW:=sh hw;have htm:m.t<=1099511627776:=(kG hm).2.1;have zK:Hid (∀W,aS W->aaf prog 117 #[.agg m.cells] W (fun e w'=>e= .returned (.tuple #[.string m.bytes,.int .i64 0])/\IT W.heap.size W w')):=fun W hW=>by
  have h:=qC m.t m.r m.f m.p m.l W hW;have he:kN m.t m.r m.f m.p m.l=0:=jk hm;unfold qd at h;rw[he]at h;exact h
 have HM:Hid (m=m):=rfl;obtain⟨sl,lg,kW⟩:=hp;have fJ:sl= .pointer none:=by have:=kW.sld;rw[wo]at this;exact this
 subst fJ;have tC:=sh kW;have yC:Hid (∀W,ah S w W->W.cell? ⟨q,0,none⟩=some (ptr g)/\W.cell? ⟨q,1,none⟩=some (.int .i64 P.m.t)/\W.cell? ⟨q,5,none⟩=some (.int .i64 P.m.l)/\W.cell? ⟨q,12,none⟩=some (.pointer none)/\W.frozen? ⟨q,12,none⟩=false/\q<W.heap.size):=fun W hW=>by
  have hk:=hW.bk tC.out.cells (yx.out q tC.out.zj.1);obtain⟨c0,c1,c2,c3,c4,c5,c6,c7,c8,c9,Ii,Da,rY,vS⟩:=hk.jT;exact⟨c0,c1,c5,rY,hk.frozen 12,hk.lt⟩
 have jN:Hid (Bk (w.alloc (.cells m.cells 40)) w.heap.size 40 m.cells):=Bk.new _ _ _;have lj:Hid (IT w.heap.size w (w.alloc (.cells m.cells 40))):=(BY _ w).alloc (AS _) _;have bX:Hid (∀w2 w3 S',IT w.heap.size w w2->Bk w2 w.heap.size 40 m.cells->Dev w3 g S' D'->ah S w2 w3->aj w2 S S'->_):=fun w2 w3 S' a1 a2 a3 a4 a5=>Oi (w0:=w) HP.out yx.out Um.out HD.out.old a1 a2 a3 a4 a5;have WT:Hid (∀W,Bk W w.heap.size 40 m.cells->W.cell? ⟨w.heap.size,0,none⟩=some (.int .i64 m.t)/\W.cell? ⟨w.heap.size,1,none⟩=some (.int .i64 m.r)/\W.cell? ⟨w.heap.size,2,none⟩=some (.int .i64 m.f)/\W.cell? ⟨w.heap.size,3,none⟩=some (.int .i64 m.p)/\W.cell? ⟨w.heap.size,4,none⟩=some (.int .i64 m.l)):=fun W h=>h.oR;obtain⟨mt,mr,mf,mp,ml⟩:=m;unfold aR.cells at *;simp only at *;generalize aR.bytes ⟨mt,mr,mf,mp,ml⟩=mb at *;have q1:IntKind.i64.wrap (mt-1)=P.m.t:=by rw[show mt-1=P.m.t by omega];exact acq _ (by omega)
 have q2:mt-1=P.m.t:=by omega
 obtain⟨par,aaV⟩:∃par,par=mt%2:=⟨_,rfl⟩;have q3:mt%2=par:=aaV.symm;have q4:mt.tmod 2=par:=by rw[Int.tmod_eq_emod_of_nonneg (by omega)];exact q3
 have q5:IntKind.i64.wrap par=par:=acq _ (by omega);rw[q3]at HW;have De:ml=P.m.l:=hl;have HWP:Hid (D.write par mb=(D',r)):=HW;subst De;have Xx:IntKind.i64.wrap P.m.t=P.m.t:=acq _ (by omega);clear hd jU hr hrS wo hm hl ht hb hw kW HW aaV HM Um;by_cases iT:r=0
 ·subst iT
  rw[if_pos rfl];go_enter func53,ntmps53
  obtain⟨b0,b1,b2,b3,b4⟩:=WT.out _ jN.out;go_wp2_with fail
  (go_at_call 117)
  refine(zK.out _ (HR.out.below lj.out)).mono ?_;rintro e w2 ⟨rfl,aC⟩;have bm:=sh (lj.out.trans (aC.mono lj.out.size));have Sh:=sh (ae jN.out aC);have vE:=sh (HD.out.below bm.out);clear aC b0 b1 b2 b3 b4;obtain⟨b0,b1,b2,b3,b4⟩:=WT.out _ Sh.out;obtain⟨c0,c1,c5,rY,f12,hql⟩:=yC.out _ (ah.af bm.out S);go_wp2_with fail
  go_quiet (fail)
  go_wp2_with fail
  go_quiet (fail)
  go_wp2_with fail
  have bD:Hid (∀W,ah S w2 W->W.cell? ⟨q,0,none⟩=some (ptr g)/\W.cell? ⟨w.heap.size,0,none⟩=some (.int .i64 mt)):=fun W hW=>⟨(yC.out _ ((ah.af bm.out S).trans hW)).1,(WT.out _ (hW.bk Sh.out (fun hx=>by have:=HD.out.old _ hx;omega))).1⟩;clear c0 c1 c5 rY f12 b0 b1 b2 b3 b4;go_region_held3 (fun W=>W.cell? ⟨q,0,none⟩=some (ptr g)/\W.cell? ⟨w.heap.size,0,none⟩=some (.int .i64 mt))
   (first|exact bD.out _ ((ah.refl S w2).drewN _)|exact bD.out _ ((((ah.refl S w2).drewN _).drewN _).drew)|exact bD.out _ (by assumption))
   ((go_at_call 118;refine(fa (vE.out.drewN _) par mb D' _ HB.out O4.out HWP.out).mono ?_;rintro e w3 ⟨rfl,Tl⟩;obtain⟨S3,SJ,GG,Gv⟩:=Tl;have Xv:=((ah.refl S w2).drewN _).trans GG))
  all_goals
   have YF:=sh SJ;have im:=sh Xv;have PL:Hid (aj w2 S S3):=fun b hb=>Gv b hb;obtain⟨c0,c1,c5,rY,f12,hql⟩:=yC.out _ ((ah.af bm.out S).trans Xv);clear SJ Xv Gv GG c0 c1 c5;go_wp2_with fail
   go_ret
   exact⟨rfl,bX.out w2 w3 S3 bm.out Sh.out YF.out im.out PL.out⟩
 ·rw[if_neg iT]
  have qr:(r != 0)=true:=by simpa using iT
  clear iT;go_enter func53,ntmps53
  obtain⟨b0,b1,b2,b3,b4⟩:=WT.out _ jN.out;go_wp2_with fail
  (go_at_call 117)
  refine(zK.out _ (HR.out.below lj.out)).mono ?_;rintro e w2 ⟨rfl,aC⟩;have bm:=sh (lj.out.trans (aC.mono lj.out.size));have Sh:=sh (ae jN.out aC);have vE:=sh (HD.out.below bm.out);clear aC b0 b1 b2 b3 b4;obtain⟨b0,b1,b2,b3,b4⟩:=WT.out _ Sh.out;obtain⟨c0,c1,c5,rY,f12,hql⟩:=yC.out _ (ah.af bm.out S);go_wp2_with fail
  go_quiet (fail)
  go_wp2_with fail
  go_quiet (fail)
  go_wp2_with fail
  have bD:Hid (∀W,ah S w2 W->W.cell? ⟨q,0,none⟩=some (ptr g)/\W.cell? ⟨w.heap.size,0,none⟩=some (.int .i64 mt)):=fun W hW=>⟨(yC.out _ ((ah.af bm.out S).trans hW)).1,(WT.out _ (hW.bk Sh.out (fun hx=>by have:=HD.out.old _ hx;omega))).1⟩;clear c0 c1 c5 rY f12 b0 b1 b2 b3 b4;go_region_held3 (fun W=>W.cell? ⟨q,0,none⟩=some (ptr g)/\W.cell? ⟨w.heap.size,0,none⟩=some (.int .i64 mt))
   (first|exact bD.out _ ((ah.refl S w2).drewN _)|exact bD.out _ ((((ah.refl S w2).drewN _).drewN _).drew)|exact bD.out _ (by assumption))
   ((go_at_call 118;refine(fa (vE.out.drewN _) par mb D' _ HB.out O4.out HWP.out).mono ?_;rintro e w3 ⟨rfl,Tl⟩;obtain⟨S3,SJ,GG,Gv⟩:=Tl;have Xv:=((ah.refl S w2).drewN _).trans GG))
  all_goals
   have YF:=sh SJ;have im:=sh Xv;have PL:Hid (aj w2 S S3):=fun b hb=>Gv b hb;clear SJ Xv Gv GG;go_wp2_with fail
   go_ret
   refine⟨rfl,S3,T,YF.out,HP.out.off ((ah.af bm.out S).trans im.out) yx.out,ja yx.out (fun b hb=>(PL.out b hb).imp_right (abw bm.out.size)) HP.out.old,((ah.af bm.out S).trans im.out).left,fun b hb=>(PL.out b hb).imp_right (abw bm.out.size),aj.refl _ _⟩
theorem zF(c0 c1 c2 c3 c4 c5 c6 c7 c8 c9 Ii Da rY vS nt nr nf np nl vb mt mr mf mp ml vs:No):
  ((((((((((((#[c0,c1,c2,c3,c4,c5,c6,c7,c8,c9,Ii,Da,rY,vS].setIfInBounds 6 nt).setIfInBounds 7 nr).setIfInBounds 8 nf).setIfInBounds 9 np).setIfInBounds 10 nl).setIfInBounds 11 vb).setIfInBounds 1 mt).setIfInBounds 2 mr).setIfInBounds 3 mf).setIfInBounds 4 mp).setIfInBounds 5 ml).setIfInBounds 12 vs)= #[c0,mt,mr,mf,mp,ml,nt,nr,nf,np,nl,vb,vs,vS]:=by simp only[List.setIfInBounds_toArray,List.set_cons_succ,List.set_cons_zero]
theorem CS{w2:AI}{q:Nat}{t:TypeId}{c0 c1 c2 c3 c4 c5 c6 c7 c8 c9 Ii Da rY vS:No}(h:Bk w2 q t #[c0,c1,c2,c3,c4,c5,c6,c7,c8,c9,Ii,Da,rY,vS])(nt nr nf np nl vb mt mr mf mp ml vs:No):
  Bk ((((((((((((w2.setCell ⟨q,6,none⟩ nt).setCell ⟨q,7,none⟩ nr).setCell ⟨q,8,none⟩ nf).setCell ⟨q,9,none⟩ np).setCell ⟨q,10,none⟩ nl).setCell ⟨q,11,none⟩ vb).setCell ⟨q,1,none⟩ mt).setCell ⟨q,2,none⟩ mr).setCell ⟨q,3,none⟩ mf).setCell ⟨q,4,none⟩ mp).setCell ⟨q,5,none⟩ ml).setCell ⟨q,12,none⟩ vs) q t #[c0,mt,mr,mf,mp,ml,nt,nr,nf,np,nl,vb,vs,vS]:=by
 have h1:=((((((((((((h.put 6 nt).put 7 nr).put 8 nf).put 9 np).put 10 nl).put 11 vb).put 1 mt).put 2 mr).put 3 mf).put 4 mp).put 5 ml).put 12 vs);rw[zF]at h1;exact h1
theorem FM(w2:AI)(q:Nat)(nt nr nf np nl vb mt mr mf mp ml vs:No):ah [q] w2 ((((((((((((w2.setCell ⟨q,6,none⟩ nt).setCell ⟨q,7,none⟩ nr).setCell ⟨q,8,none⟩ nf).setCell ⟨q,9,none⟩ np).setCell ⟨q,10,none⟩ nl).setCell ⟨q,11,none⟩ vb).setCell ⟨q,1,none⟩ mt).setCell ⟨q,2,none⟩ mr).setCell ⟨q,3,none⟩ mf).setCell ⟨q,4,none⟩ mp).setCell ⟨q,5,none⟩ ml).setCell ⟨q,12,none⟩ vs):=
 (((((((((((((ah.refl [q] w2).setCell (p:=⟨q,6,none⟩) (.inl acr) nt).setCell (p:=⟨q,7,none⟩) (.inl acr) nr).setCell (p:=⟨q,8,none⟩) (.inl acr) nf).setCell (p:=⟨q,9,none⟩) (.inl acr) np).setCell (p:=⟨q,10,none⟩) (.inl acr) nl).setCell (p:=⟨q,11,none⟩) (.inl acr) vb).setCell (p:=⟨q,1,none⟩) (.inl acr) mt).setCell (p:=⟨q,2,none⟩) (.inl acr) mr).setCell (p:=⟨q,3,none⟩) (.inl acr) mf).setCell (p:=⟨q,4,none⟩) (.inl acr) mp).setCell (p:=⟨q,5,none⟩) (.inl acr) ml).setCell (p:=⟨q,12,none⟩) (.inl acr) vs)
theorem LP{g q:Nat}{S T:List Nat}{D D':DevS}{P:eK}{w:AI}(hd:Dev w g S D)(hp:Pg w q T g P)(jU:∀b∈T,b∉S)(m:aR)(wo:P.bA=some m)(hb:D.steps<=1000000000)(r:Int)(hw:D.sync=(D',r)):
  aaf prog 119 #[.pointer (some ⟨q,0,none⟩)] w (jy g q S T D' (if r=0 then ⟨m,P.m,true,none,P.log⟩else P) r w):=by
 have HD:=sh hd;have HP:=sh hp;have yx:=sh jU;have HB:=sh hb;have HW:=sh hw;obtain⟨sl,lg,kW⟩:=hp;have fJ:=kW.sld;rw[wo]at fJ;obtain⟨b,hbT,fJ,aT⟩:=fJ;subst fJ;have tC:=sh kW;have pJ:=sh aT;have zN:b≠q:=Bk.ne aT kW.cells (by decide);have HBT:=sh hbT;have yC:Hid (∀W,ah S w W->Bk W q 188 (gB g P.m P.o P.both (.pointer (some ⟨b,0,none⟩)) lg)/\Bk W b 40 m.cells):=fun W hW=>⟨hW.bk tC.out.cells (yx.out q tC.out.zj.1),hW.bk pJ.out (yx.out b HBT.out)⟩;obtain⟨P1,P2,P3,P4,P5⟩:=P;obtain⟨mt,mr,mf,mp,ml⟩:=m;obtain⟨nt,nr,nf,np,nl⟩:=P1;obtain⟨ot,or,of,op,ol⟩:=P2;simp only at *;obtain⟨c0,c1,c2,c3,c4,c5,c6,c7,c8,c9,Ii,Da,rY,vS⟩:=(yC.out _ (ah.refl S w)).1.jT;clear hd jU wo hb hw kW aT hbT;by_cases iT:r=0
 ·subst iT
  rw[if_pos rfl];go_enter func119,ntmps119
  go_wp2_with fail
  (go_at_call 116)
  refine(nU HD.out D' 0 HB.out HW.out).mono ?_;rintro e w2 ⟨rfl,ru⟩;obtain⟨S2,mK,jZ,Kx⟩:=ru;have jO:=sh mK;have fX:=sh jZ;have sF:=sh Kx;clear mK jZ Kx c0 c1 c2 c3 c4 c5 c6 c7 c8 c9 Ii Da rY vS;have zL:=sh (yC.out _ fX.out).1;have bm:=sh (yC.out _ fX.out).2;obtain⟨c0,c1,c2,c3,c4,c5,c6,c7,c8,c9,Ii,Da,rY,vS⟩:=zL.out.jT;obtain⟨d0,d1,d2,d3,d4⟩:=bm.out.oR;have f1:=zL.out.frozen 1;have f2:=zL.out.frozen 2;have f3:=zL.out.frozen 3;have f4:=zL.out.frozen 4;have f5:=zL.out.frozen 5;have f6:=zL.out.frozen 6;have f7:=zL.out.frozen 7;have f8:=zL.out.frozen 8;have f9:=zL.out.frozen 9;have f10:=zL.out.frozen 10;have f11:=zL.out.frozen 11;have f12:=zL.out.frozen 12;go_wp2_with fail
  go_ret
  have nj:=CS zL.out (.int .i64 nt) (.int .i64 nr) (.int .i64 nf) (.int .i64 np) (.int .i64 nl) (.bool true) (.int .i64 mt) (.int .i64 mr) (.int .i64 mf) (.int .i64 mp) (.int .i64 ml) (.pointer none);have bB:=FM w2 q (.int .i64 nt) (.int .i64 nr) (.int .i64 nf) (.int .i64 np) (.int .i64 nl) (.bool true) (.int .i64 mt) (.int .i64 mr) (.int .i64 mf) (.int .i64 mp) (.int .i64 ml) (.pointer none);have hT:=HP.out.old;have Mc:=ja yx.out sF.out hT;have hqT:=tC.out.zj.1;refine⟨rfl,S2,T,jO.out.off bB (fun x hx hq=>by simp at hq;subst hq;exact Mc _ hqT hx),⟨.pointer none,lg,nj,rfl,bB.own (fX.out.own tC.out.log (fun x hx=>yx.out _ (tC.out.zj.2 x hx))) (fun x hx=> ?_),tC.out.zj,fun x hx=> ?_⟩,Mc,?_,sF.out,aj.refl _ _⟩
  ·have bM:=cz tC.out.log tC.out.cells (by decide)
   rw[hx]at bM;simp;exact fun e=>bM (by rw[e])
  ·have h1:=hT x hx
   have h2:=fX.out.size;have h3:=bB.size;omega
  ·exact fX.out.left.then bB (fun x hx=> .inl (by simp at hx;subst hx;exact By.2 (.inr hqT)))
 ·rw[if_neg iT]
  have qr:(r != 0)=true:=by simpa using iT
  clear iT;go_enter func119,ntmps119
  go_wp2_with fail
  (go_at_call 116)
  refine(nU HD.out D' r HB.out HW.out).mono ?_;rintro e w2 ⟨rfl,ru⟩;obtain⟨S2,mK,jZ,Kx⟩:=ru;have jO:=sh mK;have fX:=sh jZ;have sF:=sh Kx;clear mK jZ Kx;go_wp2_with fail
  go_ret
  exact⟨rfl,S2,T,jO.out,HP.out.off fX.out yx.out,ja yx.out sF.out HP.out.old,fX.out.left,sF.out,aj.refl _ _⟩
end Go.Proofs.YtjbcbnemdhbhbaaGreatDoor
