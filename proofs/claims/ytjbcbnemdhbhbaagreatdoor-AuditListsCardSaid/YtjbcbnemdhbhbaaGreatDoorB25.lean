import Derived.Test.YtjbcbnemdhbhbaaGreatDoorB2
import Derived.Test.YtjbcbnemdhbhbaaGreatDoorB24
import Derived.Test.YtjbcbnemdhbhbaaGreatDoorB1
import Derived.LoopN
import Derived.Deep.OwnRows
import Derived.RegionTactic
import Derived.BigRegion
import Derived.Deep.RegionHeld3
import Derived.WalkSpells
import Derived.Test.YtjbcbnemdhbhbaaGreatDoorB0
import Derived.Sort.OwnSortedInts
import Derived.Shelf.SortM.Plain
import Derived.Shelf.SortM.SortNone
set_option maxRecDepth 100000
set_option linter.unusedVariables false
set_option linter.unusedSimpArgs false
set_option maxHeartbeats 40000000
open Go renaming Calls→aag,Ending→aci,TypeId→abW,Value→IS,World→AI,rounds_succ→abK,wp_loop_rounds→acd
open Go.IntWalk renaming i64_in→acu
open Go.Lib renaming hid→sh
open Go.RowKit renaming Below→No
open Go.RowKit.Below renaming refl→IN
open Go.Value renaming int→acK
open Int renaming tdiv_eq_ediv_of_nonneg→aff
open List renaming mem_append→AT,mem_cons→IT,mem_cons_of_mem→ace,mem_cons_self→acs,mem_singleton→By
open Nat renaming le_refl→AS,le_trans→abE
namespace Go.Proofs.YtjbcbnemdhbhbaaGreatDoor
open Go.Proofs.Tryz
open Go.RowKit
open Go.PlainAid
theorem fb{w w':AI}(h:No w.heap.size w w')(o:Obj):No w.heap.size w (w'.alloc o):=h.alloc h.size o
theorem wg(w:AI)(t:abW)(cs:Array IS)(k:Nat)(h:w.heap.size=k):Bk (w.alloc (.cells cs t)) k t cs:=by subst h;exact Bk.new w t cs
def dQ (D:DevS):Int:=
 if (D.read 0).2≠0 then (D.read 0).2 else if (D.read 1).2≠0 then (D.read 1).2
 else if cI (gZ (D.read 0).1 (D.read 1).1)=true/\fw (gZ (D.read 0).1 (D.read 1).1)<=(D.sec.length:Int)/4 then 0 else 4
def B5 (a b:ByteArray):ByteArray:=if C1 a b then a else b
def kQ (D:DevS):eR:=⟨vQ (gZ (D.read 0).1 (D.read 1).1),vQ (B5 (D.read 0).1 (D.read 1).1),cI (B5 (D.read 0).1 (D.read 1).1),none,[]⟩
def im (g:Nat) (D:DevS) (w:AI) (e:aci) (w':AI):Prop:=
 No w.heap.size w w'/\((dQ D≠0/\e= .returned (.tuple #[.pointer none,.int .i64 (dQ D)]))\/
  (dQ D=0/\∃q,w.heap.size<=q/\e= .returned (.tuple #[.pointer (some ⟨q,0,none⟩),.int .i64 0])/\Pg w' q [q] g (kQ D)))
theorem jh{g:Nat}{D:DevS}{w w':AI}{r:Int}(h:dQ D=r)(hr:r≠0)(hb:No w.heap.size w w'):im g D w (.returned (.tuple #[.pointer none,.int .i64 r])) w':=by
 subst h;exact⟨hb,.inl ⟨hr,rfl⟩⟩
theorem cC{g:Nat}{S:List Nat}{D:DevS}{w:AI}(hd:Dev w g S D)(i:Int)(s:ByteArray)(r:Int)(hb:D.steps<=1000000000)(h:D.read i=(s,r)):
  aag prog 152 #[ptr g,.int .i64 i] w (oz s r w):=by
 have h1:=Hw hd i hb;rw[h]at h1;exact h1
theorem EL(D:DevS):(∃a r,D.read 0=(a,r)/\(r != 0)=true/\Hid (dQ D=r/\r≠0))\/
  (∃a b r,D.read 0=(a,0)/\D.read 1=(b,r)/\(r != 0)=true/\Hid (dQ D=r/\r≠0))\/
  (∃a b,D.read 0=(a,0)/\D.read 1=(b,0)):=by
 obtain⟨a,r,ha⟩:∃a r,D.read 0=(a,r):=⟨_,_,rfl⟩;obtain⟨b,q,hb⟩:∃b q,D.read 1=(b,q):=⟨_,_,rfl⟩;by_cases h0:r=0
 ·subst h0
  by_cases h1:q=0
  ·subst h1
   exact .inr (.inr ⟨a,b,ha,hb⟩)
  ·refine .inr (.inl ⟨a,b,q,ha,hb,by simpa using h1,⟨?_,h1⟩⟩)
   unfold dQ;rw[ha,hb,if_neg (by simp),if_pos h1]
 ·refine .inl ⟨a,r,ha,by simpa using h0,⟨?_,h0⟩⟩
  unfold dQ;rw[ha,if_pos h0]
theorem xa{g:Nat}{S:List Nat}{D:DevS}{w:AI}(hd:Dev w g S D)(hb:D.steps<=1000000000)(h:(∃a r,D.read 0=(a,r)/\(r != 0)=true/\Hid (dQ D=r/\r≠0))\/
  (∃a b r,D.read 0=(a,0)/\D.read 1=(b,r)/\(r != 0)=true/\Hid (dQ D=r/\r≠0))):
  aag prog 99 #[ptr g] w (im g D w):=by
 have HB:=sh hb;have HD:=sh hd;rcases h with⟨a,r,ha,q1,HR⟩|⟨a,b,r,ha,ar,q1,HR⟩
 ·have HA:=sh ha
  clear hd hb ha;go_enter func99,ntmps99
  go_wp2_with fail
  refine acd 3 ?_;rw[abK];go_wp2_with fail
  (go_at_call 152)
  refine(cC (HD.out.off ((ah.refl [] w).alloc _) (by simp)) 0 a r HB.out HA.out).mono ?_;rintro e w2 ⟨rfl,rfl⟩;go_wp2_with fail
  go_ret2
  exact jh HR.out.1 HR.out.2 ((IN _ w).alloc (AS _) _)
 ·have HA:=sh ha
  have xK:=sh ar;clear hd hb ha ar;go_enter func99,ntmps99
  go_wp2_with fail
  refine acd 3 ?_;rw[abK];go_wp2_with fail
  (go_at_call 152)
  refine(cC (HD.out.off ((ah.refl [] w).alloc _) (by simp)) 0 a 0 HB.out HA.out).mono ?_;rintro e w2 ⟨rfl,rfl⟩;go_wp2_with fail
  rw[abK];go_wp2_with fail
  (go_at_call 152)
  refine(cC (HD.out.off ((ah.refl [] w).alloc _) (by simp)) 1 b r HB.out xK.out).mono ?_;rintro e w2 ⟨rfl,rfl⟩;go_wp2_with fail
  go_ret2
  exact jh HR.out.1 HR.out.2 ((IN _ w).alloc (AS _) _)
theorem mJ{a b:ByteArray}{t r f p l q e:Int}(ht:eC (gZ a b)=t)(hr:ic (gZ a b)=r)(hf:ia (gZ a b)=f)(hp:ib (gZ a b)=p)(hl:fw (gZ a b)=l)(hq:Nt a b=q)(he:dU (gZ a b)=e)(W:AI)(hW:aO W):
  aag prog 153 #[.string a,.string b] W (fun en w'=>en= .returned (.tuple #[.agg #[.int .i64 t,.int .i64 r,.int .i64 f,.int .i64 p,.int .i64 l],.int .i64 q,.int .i64 e])/\No W.heap.size W w'):=by
 have h:=EH a b W hW;unfold eh jg at h;rw[ht,hr,hf,hp,hl,hq,he]at h;exact h
theorem Ji{g:Nat}{S:List Nat}{D:DevS}{w:AI}(hd:Dev w g S D)(hr:aO w)(hb:D.steps<=1000000000){a b:ByteArray}(ha:D.read 0=(a,0))(ar:D.read 1=(b,0))(hu:cI (gZ a b)=false):
  aag prog 99 #[ptr g] w (im g D w):=by
 have HO:Hid (dQ D=4):=show _=_ by
  unfold dQ;rw[ha,ar,if_neg (by simp),if_neg (by simp),if_neg (by rw[hu];simp)]
 have HB:=sh hb;have HD:=sh hd;have HR:=sh hr;have HA:=sh ha;have xK:=sh ar;obtain⟨q,hq⟩:∃q,Nt a b=q:=⟨_,rfl⟩;obtain⟨u1,u2,u3,u4,u5,u6⟩:=uD hu;have HN:=sh (mJ u1 u2 u3 u4 u5 hq u6);clear hu u1 u2 u3 u4 u5 u6 hq;clear hd hb ha ar hr;go_enter func99,ntmps99
 go_wp2_with fail
 refine acd 3 ?_;rw[abK];go_wp2_with fail
 (go_at_call 152)
 refine(cC (HD.out.off ((ah.refl [] w).alloc _) (by simp)) 0 a 0 HB.out HA.out).mono ?_;rintro e w2 ⟨rfl,rfl⟩;go_wp2_with fail
 rw[abK];go_wp2_with fail
 (go_at_call 152)
 refine(cC (HD.out.off ((ah.refl [] w).alloc _) (by simp)) 1 b 0 HB.out xK.out).mono ?_;rintro e w2 ⟨rfl,rfl⟩;go_wp2_with fail
 rw[abK];go_wp2_with fail
 (go_at_call 153)
 refine(HN.out _ (HR.out.below ((IN _ w).alloc (AS _) _))).mono ?_;rintro e w3 ⟨rfl,aQ⟩;have sH:=sh (af (Bk.new w 234 #[.string a,.string b]) aQ);have vc:=sh (((IN _ w).alloc (AS _) (.cells #[.string a,.string b] 234)).trans (aQ.mono (by simp)));clear aQ;go_wp2_with fail
 go_quiet (fail)
 go_wp2_with fail
 go_ret2
 exact jh HO.out (by decide) (below_drewN (vc.out.alloc vc.out.size _) _)
theorem lE{g:Nat}{S:List Nat}{D:DevS}{w:AI}(hd:Dev w g S D)(n:Nat):aag prog 151 #[ptr g] (w.drewN n) fun e w''=>e= .returned (.int .i64 (D.sec.length:Int))/\∃m,w''=w.drewN m:=
 (wo (hd.drewN n)).mono fun _ _ ⟨he,hw⟩=>⟨he,n,hw.symm⟩
theorem Jj{g:Nat}{S:List Nat}{D:DevS}{w:AI}(hd:Dev w g S D)(hr:aO w)(hb:D.steps<=1000000000){a b:ByteArray}(ha:D.read 0=(a,0))(ar:D.read 1=(b,0))(hu:cI (gZ a b)=true)(hl:(D.sec.length:Int)/4<fw (gZ a b)):
  aag prog 99 #[ptr g] w (im g D w):=by
 have HO:Hid (dQ D=4):=show _=_ by
  unfold dQ;rw[ha,ar,if_neg (by simp),if_neg (by simp),if_neg (by simp only;omega)]
 have HB:=sh hb;have HD:=sh hd;have HR:=sh hr;have HA:=sh ha;have xK:=sh ar;obtain⟨q,hq⟩:∃q,Nt a b=q:=⟨_,rfl⟩;have u6:dU (gZ a b)=0:=by unfold dU;rw[hu];rfl
 have HN:=sh (mJ (a:=a) (b:=b) rfl rfl rfl rfl rfl hq u6);generalize eC (gZ a b)=t at *;generalize ic (gZ a b)=r at *;generalize ia (gZ a b)=f at *;generalize ib (gZ a b)=p at *;generalize fw (gZ a b)=l at *;have k0:(0:Int)<=(D.sec.length:Int):=by omega
 obtain⟨n4,j6⟩:∃n4,n4=(D.sec.length:Int)/4:=⟨_,rfl⟩;rw[<-j6]at hl;have k1:(D.sec.length:Int)/4=n4:=j6.symm;have k2:(D.sec.length:Int).tdiv 4=n4:=by rw[aff (by omega)];exact k1
 have k3:decide (n4<l)=true:=by simp;omega
 have k4:IntKind.i64.wrap n4=n4:=acu _ (by have:=hd.ok.most;omega);clear hu u6 hq j6;clear hd hb ha ar hr;go_enter func99,ntmps99
 go_wp2_with fail
 refine acd 3 ?_;rw[abK];go_wp2_with fail
 (go_at_call 152)
 refine(cC (HD.out.off ((ah.refl [] w).alloc _) (by simp)) 0 a 0 HB.out HA.out).mono ?_;rintro e w2 ⟨rfl,rfl⟩;go_wp2_with fail
 rw[abK];go_wp2_with fail
 (go_at_call 152)
 refine(cC (HD.out.off ((ah.refl [] w).alloc _) (by simp)) 1 b 0 HB.out xK.out).mono ?_;rintro e w2 ⟨rfl,rfl⟩;go_wp2_with fail
 rw[abK];go_wp2_with fail
 (go_at_call 153)
 refine(HN.out _ (HR.out.below ((IN _ w).alloc (AS _) _))).mono ?_;rintro e w3 ⟨rfl,aQ⟩;have sH:=sh (af (Bk.new w 234 #[.string a,.string b]) aQ);have vc:=sh (((IN _ w).alloc (AS _) (.cells #[.string a,.string b] 234)).trans (aQ.mono (by simp)));clear aQ;have TQ:=sh ((HD.out.off (ah.ae vc.out []) (by simp)).off ((ah.refl [] w3).alloc (.cells #[.int .i64 t,.int .i64 r,.int .i64 f,.int .i64 p,.int .i64 l] 40)) (by simp));go_wp2_with fail
 go_quiet ((go_at_call 151;exact lE TQ.out _))
 go_wp2_with fail
 go_ret2
 exact jh HO.out (by decide) (below_drewN (vc.out.alloc vc.out.size _) _)
theorem uG{s:ByteArray}{t r f p l e:Int}(ht:eC s=t)(hr:ic s=r)(hf:ia s=f)(hp:ib s=p)(hl:fw s=l)(he:dU s=e)(W:AI)(hW:aO W):
  aag prog 154 #[.string s] W (fun en w'=>en= .returned (.tuple #[.agg #[.int .i64 t,.int .i64 r,.int .i64 f,.int .i64 p,.int .i64 l],.int .i64 e])/\No W.heap.size W w'):=by
 have h:=mi s W hW;unfold cG jg at h;rw[ht,hr,hf,hp,hl,he]at h;exact h
theorem Bk.jM{w:AI}{g:Nat}{t:abW}{c0 c1 c2 c3 c4 c5 c6 c7 c8 c9 Ho CN rQ wh:IS}(h:Bk w g t #[c0,c1,c2,c3,c4,c5,c6,c7,c8,c9,Ho,CN,rQ,wh]):
  w.cell? ⟨g,0,none⟩=some c0/\w.cell? ⟨g,1,none⟩=some c1/\w.cell? ⟨g,2,none⟩=some c2/\w.cell? ⟨g,3,none⟩=some c3/\w.cell? ⟨g,4,none⟩=some c4/\w.cell? ⟨g,5,none⟩=some c5/\w.cell? ⟨g,6,none⟩=some c6/\w.cell? ⟨g,7,none⟩=some c7/\w.cell? ⟨g,8,none⟩=some c8/\w.cell? ⟨g,9,none⟩=some c9/\w.cell? ⟨g,10,none⟩=some Ho/\w.cell? ⟨g,11,none⟩=some CN/\w.cell? ⟨g,12,none⟩=some rQ/\w.cell? ⟨g,13,none⟩=some wh:=
 ⟨by simpa using h.cell 0,by simpa using h.cell 1,by simpa using h.cell 2,by simpa using h.cell 3,by simpa using h.cell 4,by simpa using h.cell 5,by simpa using h.cell 6,by simpa using h.cell 7,by simpa using h.cell 8,by simpa using h.cell 9,by simpa using h.cell 10,by simpa using h.cell 11,by simpa using h.cell 12,by simpa using h.cell 13⟩
theorem yL{w:AI}{q g:Nat}{P:eR}(hb:Bk w q 188 (gv g P.m P.o P.both (.pointer none) (.slice none 0 0)))(hs:P.bC=none)(hl:P.log=[]):Pg w q [q] g P:=by
 refine⟨.pointer none,.slice none 0 0,hb,by rw[hs];rfl,by rw[hl];exact⟨rfl,.inl ⟨rfl,rfl⟩⟩,⟨by simp,fun b h=>by simp[Value.ownBlock]at h⟩,fun b h=> ?_⟩;simp at h;subst h;exact hb.lt
theorem Nx{g:Nat}{S:List Nat}{D:DevS}{w:AI}(hd:Dev w g S D)(hr:aO w)(hb:D.steps<=1000000000){a b:ByteArray}(ha:D.read 0=(a,0))(ar:D.read 1=(b,0))(hu:cI (gZ a b)=true)(hl:fw (gZ a b)<=(D.sec.length:Int)/4)(hw:C1 a b=true):
  aag prog 99 #[ptr g] w (im g D w):=by
 have HO:Hid (dQ D=0):=show _=_ by
  unfold dQ;rw[ha,ar,if_neg (by simp),if_neg (by simp),if_pos ⟨hu,hl⟩]
 have Mv:kQ D=⟨vQ (gZ a b),vQ a,cI a,none,[]⟩:=by
  unfold kQ B5;rw[ha,ar,hw];rfl
 have HB:=sh hb;have HD:=sh hd;have HR:=sh hr;have HA:=sh ha;have xK:=sh ar;have hq:Nt a b=1:=by unfold Nt;rw[hw];rfl
 have u6:dU (gZ a b)=0:=by unfold dU;rw[hu];rfl
 have HN:=sh (mJ (a:=a) (b:=b) rfl rfl rfl rfl rfl hq u6);have HU:=sh (uG (s:=a) rfl rfl rfl rfl rfl rfl);have Qu:dU a=0/\cI a=true\/dU a=4/\cI a=false:=kD a;unfold vQ at Mv;have hz:cI a=false->eC a=0/\ic a=0/\ia a=0/\ib a=0/\fw a=0:=fun h=>by obtain⟨h1,h2,h3,h4,h5,_⟩:=uD h;exact⟨h1,h2,h3,h4,h5⟩
 generalize cI a=ub at *;generalize eC (gZ a b)=t at *;generalize ic (gZ a b)=r at *;generalize ia (gZ a b)=f at *;generalize ib (gZ a b)=p at *;generalize fw (gZ a b)=l at *;generalize eC a=t2 at *;generalize ic a=r2 at *;generalize ia a=f2 at *;generalize ib a=p2 at *;generalize fw a=l2 at *;generalize dU a=e2 at *;have Yr:=sh Mv;have HZ:=sh hz;clear hz;have k0:(0:Int)<=(D.sec.length:Int):=by omega
 obtain⟨n4,j6⟩:∃n4,n4=(D.sec.length:Int)/4:=⟨_,rfl⟩;rw[<-j6]at hl;have k1:(D.sec.length:Int)/4=n4:=j6.symm;have k2:(D.sec.length:Int).tdiv 4=n4:=by rw[aff (by omega)];exact k1
 have k3:decide (n4<l)=false:=by simp;omega
 have k4:IntKind.i64.wrap n4=n4:=acu _ (by have:=hd.ok.most;omega);have HEC:=sh Qu;clear hu u6 hq j6 Mv Qu hw;clear hd hb ha ar hr;go_enter func99,ntmps99
 go_wp2_with fail
 refine acd 3 ?_;rw[abK];go_wp2_with fail
 (go_at_call 152)
 refine(cC (HD.out.off ((ah.refl [] w).alloc _) (by simp)) 0 a 0 HB.out HA.out).mono ?_;rintro e w2 ⟨rfl,rfl⟩;go_wp2_with fail
 rw[abK];go_wp2_with fail
 (go_at_call 152)
 refine(cC (HD.out.off ((ah.refl [] w).alloc _) (by simp)) 1 b 0 HB.out xK.out).mono ?_;rintro e w2 ⟨rfl,rfl⟩;go_wp2_with fail
 rw[abK];go_wp2_with fail
 (go_at_call 153)
 refine(HN.out _ (HR.out.below ((IN _ w).alloc (AS _) _))).mono ?_;rintro e w3 ⟨rfl,aQ⟩;have sH:=sh (af (Bk.new w 234 #[.string a,.string b]) aQ);have vc:=sh (((IN _ w).alloc (AS _) (.cells #[.string a,.string b] 234)).trans (aQ.mono (by simp)));clear aQ;have TQ:=sh ((HD.out.off (ah.ae vc.out []) (by simp)).off ((ah.refl [] w3).alloc (.cells #[.int .i64 t,.int .i64 r,.int .i64 f,.int .i64 p,.int .i64 l] 40)) (by simp));go_wp2_with fail
 go_quiet ((go_at_call 151;exact lE TQ.out _))
 have tB:w.heap.size<w3.heap.size:=sH.out.lt;have aeQ:w3.cell? ⟨w.heap.size,0,none⟩=some (.string a):=by simpa using sH.out.cell 0
 have ZI:w3.cell? ⟨w.heap.size,1,none⟩=some (.string b):=by simpa using sH.out.cell 1
 go_wp2_with fail
 (go_at_call 154)
 have zg:Bk (((w3.alloc (.cells #[.int .i64 t,.int .i64 r,.int .i64 f,.int .i64 p,.int .i64 l] 40)).drewN nq).alloc (.cells (gv g ⟨t,r,f,p,l⟩ aL.zero false (.pointer none) (.slice none 0 0)) 188)) (w3.heap.size+1) 188 (gv g ⟨t,r,f,p,l⟩ aL.zero false (.pointer none) (.slice none 0 0)):=wg _ _ _ _ (by simp);have HBQ:=sh zg;have KS:Hid (No w.heap.size w (((w3.alloc (.cells #[.int .i64 t,.int .i64 r,.int .i64 f,.int .i64 p,.int .i64 l] 40)).drewN nq).alloc (.cells (gv g ⟨t,r,f,p,l⟩ aL.zero false (.pointer none) (.slice none 0 0)) 188))):=fb (below_drewN (fb vc.out _) _) _;clear zg;refine(HU.out _ (HR.out.below KS.out)).mono ?_;rintro e w5 ⟨rfl,dO⟩;have rM:=sh (af HBQ.out dO);have YO:=sh (KS.out.trans (dO.mono KS.out.size));have aat:w3.heap.size+1<w5.heap.size:=rM.out.lt;clear dO;obtain⟨c0,c1,c2,c3,c4,c5,c6,c7,c8,c9,Ho,CN,rQ,wh⟩:=rM.out.jM;have g6:=rM.out.frozen 6;have g7:=rM.out.frozen 7;have g8:=rM.out.frozen 8;have g9:=rM.out.frozen 9;have g10:=rM.out.frozen 10;have g11:=rM.out.frozen 11;rcases HEC.out with⟨rfl,ML⟩|⟨rfl,ML⟩
 ·have PC:=sh ML
  clear ML;go_wp2_with fail
  go_ret2
  have aU:=((((((rM.out.put 6 (.int .i64 t2)).put 7 (.int .i64 r2)).put 8 (.int .i64 f2)).put 9 (.int .i64 p2)).put 10 (.int .i64 l2)).put 11 (.bool true)).alloc (.cells #[.int .i64 t2,.int .i64 r2,.int .i64 f2,.int .i64 p2,.int .i64 l2] 40);have hle:w.heap.size<=w3.heap.size+1:=by have:=vc.out.size;omega
  refine⟨fb ((((((YO.out.setCell hle _).setCell hle _).setCell hle _).setCell hle _).setCell hle _).setCell hle _) _,.inr ⟨HO.out,w3.heap.size+1,hle,rfl,?_⟩⟩;rw[Yr.out,PC.out];exact yL aU rfl rfl
 ·have PC:=sh ML
  clear ML;go_wp2_with fail
  go_ret2
  have aU:=rM.out.alloc (.cells #[.int .i64 t2,.int .i64 r2,.int .i64 f2,.int .i64 p2,.int .i64 l2] 40);have hle:w.heap.size<=w3.heap.size+1:=by have:=vc.out.size;omega
  refine⟨fb YO.out _,.inr ⟨HO.out,w3.heap.size+1,hle,rfl,?_⟩⟩;rw[Yr.out,PC.out];obtain⟨z1,z2,z3,z4,z5⟩:=HZ.out PC.out;rw[z1,z2,z3,z4,z5]at aU |-;exact yL aU rfl rfl
theorem Ny{g:Nat}{S:List Nat}{D:DevS}{w:AI}(hd:Dev w g S D)(hr:aO w)(hb:D.steps<=1000000000){a b:ByteArray}(ha:D.read 0=(a,0))(ar:D.read 1=(b,0))(hu:cI (gZ a b)=true)(hl:fw (gZ a b)<=(D.sec.length:Int)/4)(hw:C1 a b=false):
  aag prog 99 #[ptr g] w (im g D w):=by
 have HO:Hid (dQ D=0):=show _=_ by
  unfold dQ;rw[ha,ar,if_neg (by simp),if_neg (by simp),if_pos ⟨hu,hl⟩]
 have Mv:kQ D=⟨vQ (gZ a b),vQ b,cI b,none,[]⟩:=by
  unfold kQ B5;rw[ha,ar,hw];rfl
 have HB:=sh hb;have HD:=sh hd;have HR:=sh hr;have HA:=sh ha;have xK:=sh ar;have hq:Nt a b=0:=by unfold Nt;rw[hw];rfl
 have u6:dU (gZ a b)=0:=by unfold dU;rw[hu];rfl
 have HN:=sh (mJ (a:=a) (b:=b) rfl rfl rfl rfl rfl hq u6);have HU:=sh (uG (s:=b) rfl rfl rfl rfl rfl rfl);have Qu:dU b=0/\cI b=true\/dU b=4/\cI b=false:=kD b;unfold vQ at Mv;have hz:cI b=false->eC b=0/\ic b=0/\ia b=0/\ib b=0/\fw b=0:=fun h=>by obtain⟨h1,h2,h3,h4,h5,_⟩:=uD h;exact⟨h1,h2,h3,h4,h5⟩
 generalize cI b=ub at *;generalize eC (gZ a b)=t at *;generalize ic (gZ a b)=r at *;generalize ia (gZ a b)=f at *;generalize ib (gZ a b)=p at *;generalize fw (gZ a b)=l at *;generalize eC b=t2 at *;generalize ic b=r2 at *;generalize ia b=f2 at *;generalize ib b=p2 at *;generalize fw b=l2 at *;generalize dU b=e2 at *;have Yr:=sh Mv;have HZ:=sh hz;clear hz;have k0:(0:Int)<=(D.sec.length:Int):=by omega
 obtain⟨n4,j6⟩:∃n4,n4=(D.sec.length:Int)/4:=⟨_,rfl⟩;rw[<-j6]at hl;have k1:(D.sec.length:Int)/4=n4:=j6.symm;have k2:(D.sec.length:Int).tdiv 4=n4:=by rw[aff (by omega)];exact k1
 have k3:decide (n4<l)=false:=by simp;omega
 have k4:IntKind.i64.wrap n4=n4:=acu _ (by have:=hd.ok.most;omega);have HEC:=sh Qu;clear hu u6 hq j6 Mv Qu hw;clear hd hb ha ar hr;go_enter func99,ntmps99
 go_wp2_with fail
 refine acd 3 ?_;rw[abK];go_wp2_with fail
 (go_at_call 152)
 refine(cC (HD.out.off ((ah.refl [] w).alloc _) (by simp)) 0 a 0 HB.out HA.out).mono ?_;rintro e w2 ⟨rfl,rfl⟩;go_wp2_with fail
 rw[abK];go_wp2_with fail
 (go_at_call 152)
 refine(cC (HD.out.off ((ah.refl [] w).alloc _) (by simp)) 1 b 0 HB.out xK.out).mono ?_;rintro e w2 ⟨rfl,rfl⟩;go_wp2_with fail
 rw[abK];go_wp2_with fail
 (go_at_call 153)
 refine(HN.out _ (HR.out.below ((IN _ w).alloc (AS _) _))).mono ?_;rintro e w3 ⟨rfl,aQ⟩;have sH:=sh (af (Bk.new w 234 #[.string a,.string b]) aQ);have vc:=sh (((IN _ w).alloc (AS _) (.cells #[.string a,.string b] 234)).trans (aQ.mono (by simp)));clear aQ;have TQ:=sh ((HD.out.off (ah.ae vc.out []) (by simp)).off ((ah.refl [] w3).alloc (.cells #[.int .i64 t,.int .i64 r,.int .i64 f,.int .i64 p,.int .i64 l] 40)) (by simp));go_wp2_with fail
 go_quiet ((go_at_call 151;exact lE TQ.out _))
 have tB:w.heap.size<w3.heap.size:=sH.out.lt;have aeQ:w3.cell? ⟨w.heap.size,0,none⟩=some (.string a):=by simpa using sH.out.cell 0
 have ZI:w3.cell? ⟨w.heap.size,1,none⟩=some (.string b):=by simpa using sH.out.cell 1
 go_wp2_with fail
 (go_at_call 154)
 have zg:Bk (((w3.alloc (.cells #[.int .i64 t,.int .i64 r,.int .i64 f,.int .i64 p,.int .i64 l] 40)).drewN nq).alloc (.cells (gv g ⟨t,r,f,p,l⟩ aL.zero false (.pointer none) (.slice none 0 0)) 188)) (w3.heap.size+1) 188 (gv g ⟨t,r,f,p,l⟩ aL.zero false (.pointer none) (.slice none 0 0)):=wg _ _ _ _ (by simp);have HBQ:=sh zg;have KS:Hid (No w.heap.size w (((w3.alloc (.cells #[.int .i64 t,.int .i64 r,.int .i64 f,.int .i64 p,.int .i64 l] 40)).drewN nq).alloc (.cells (gv g ⟨t,r,f,p,l⟩ aL.zero false (.pointer none) (.slice none 0 0)) 188))):=fb (below_drewN (fb vc.out _) _) _;clear zg;refine(HU.out _ (HR.out.below KS.out)).mono ?_;rintro e w5 ⟨rfl,dO⟩;have rM:=sh (af HBQ.out dO);have YO:=sh (KS.out.trans (dO.mono KS.out.size));have aat:w3.heap.size+1<w5.heap.size:=rM.out.lt;clear dO;obtain⟨c0,c1,c2,c3,c4,c5,c6,c7,c8,c9,Ho,CN,rQ,wh⟩:=rM.out.jM;have g6:=rM.out.frozen 6;have g7:=rM.out.frozen 7;have g8:=rM.out.frozen 8;have g9:=rM.out.frozen 9;have g10:=rM.out.frozen 10;have g11:=rM.out.frozen 11;rcases HEC.out with⟨rfl,ML⟩|⟨rfl,ML⟩
 ·have PC:=sh ML
  clear ML;go_wp2_with fail
  go_ret2
  have aU:=((((((rM.out.put 6 (.int .i64 t2)).put 7 (.int .i64 r2)).put 8 (.int .i64 f2)).put 9 (.int .i64 p2)).put 10 (.int .i64 l2)).put 11 (.bool true)).alloc (.cells #[.int .i64 t2,.int .i64 r2,.int .i64 f2,.int .i64 p2,.int .i64 l2] 40);have hle:w.heap.size<=w3.heap.size+1:=by have:=vc.out.size;omega
  refine⟨fb ((((((YO.out.setCell hle _).setCell hle _).setCell hle _).setCell hle _).setCell hle _).setCell hle _) _,.inr ⟨HO.out,w3.heap.size+1,hle,rfl,?_⟩⟩;rw[Yr.out,PC.out];exact yL aU rfl rfl
 ·have PC:=sh ML
  clear ML;go_wp2_with fail
  go_ret2
  have aU:=rM.out.alloc (.cells #[.int .i64 t2,.int .i64 r2,.int .i64 f2,.int .i64 p2,.int .i64 l2] 40);have hle:w.heap.size<=w3.heap.size+1:=by have:=vc.out.size;omega
  refine⟨fb YO.out _,.inr ⟨HO.out,w3.heap.size+1,hle,rfl,?_⟩⟩;rw[Yr.out,PC.out];obtain⟨z1,z2,z3,z4,z5⟩:=HZ.out PC.out;rw[z1,z2,z3,z4,z5]at aU |-;exact yL aU rfl rfl
theorem Nw{g:Nat}{S:List Nat}{D:DevS}{w:AI}(hd:Dev w g S D)(hr:aO w)(hb:D.steps<=1000000000):
  aag prog 99 #[ptr g] w (im g D w):=by
 rcases EL D with h|h|⟨a,b,ha,ar⟩
 ·exact xa hd hb (.inl h)
 ·exact xa hd hb (.inr h)
 ·cases hu:cI (gZ a b)with
  | false=>exact Ji hd hr hb ha ar hu
  | true=>
   by_cases hl:fw (gZ a b)<=(D.sec.length:Int)/4
   ·cases hw:C1 a b with
    | true=>exact Nx hd hr hb ha ar hu hl hw
    | false=>exact Ny hd hr hb ha ar hu hl hw
   ·exact Jj hd hr hb ha ar hu (by omega)
end Go.Proofs.YtjbcbnemdhbhbaaGreatDoor
namespace Go.Proofs.YtjbcbnemdhbhbaaGreatDoor
open Go.Proofs.Tryz
open Go.PlainAid
def oI (limit:Int):aL:=⟨0,0,0,1,limit⟩
def oJ (limit:Int):aL:=⟨1,0,0,1,limit⟩
theorem yi{limit:Int}(h:4<=limit/\limit<=512):(oI limit).ok=true:=show cP 0 0 0 1 limit=true from qy (by omega)
theorem yj{limit:Int}(h:4<=limit/\limit<=512):(oJ limit).ok=true:=show cP 1 0 0 1 limit=true from qy (by omega)
def cn (n:Nat) (limit:Int):DevS:=⟨(List.range n).map fun i=>if i=0 then (oI limit).bytes else if i=1 then (oJ limit).bytes else DevS.bw,[],false,0,3,2⟩
theorem rI{d:DevS}{i:Int}{s:ByteArray}(ho:d.off=false)(hf:d.cD=0)(hi:d.nU i=true)(hs:s.size=128):
  d.write i s=({ d with row:=d.row++[(i.toNat,s)],steps:=d.steps+1,writes:=d.writes+1 },0):=by
 obtain⟨sec,row,off,cD,steps,writes⟩:=d;simp only at ho hf;subst ho;subst hf;unfold DevS.write;rw[hi,hs];rfl
theorem tp{n:Nat}{limit:Int}(h:4<=limit/\limit<=512)(hn:4*limit<=(n:Int)):eS (DevS.new n) limit=(cn n limit,0):=by
 have e0:dq 0 0 0 1 limit=(oI limit).bytes:=rfl;have e1:dq 1 0 0 1 limit=(oJ limit).bytes:=rfl;have s0:=aL.size (yi h);have s1:=aL.size (yj h);have l0:(DevS.new n).sec.length=n:=by simp[DevS.new]
 have w0:(DevS.new n).write 0 (oI limit).bytes=(⟨(DevS.new n).sec,[(0,(oI limit).bytes)],false,0,1,1⟩,0):=rI rfl rfl (DevS.iB.2 ⟨by omega,by rw[l0];omega⟩) s0;have w1:(⟨(DevS.new n).sec,[(0,(oI limit).bytes)],false,0,1,1⟩:DevS).write 1 (oJ limit).bytes=(⟨(DevS.new n).sec,[(0,(oI limit).bytes),(1,(oJ limit).bytes)],false,0,2,2⟩,0):=rI rfl rfl (DevS.iB.2 ⟨by omega,by simp only;rw[l0];omega⟩) s1;unfold eS;rw[if_pos ⟨h.1,h.2,by rw[l0];exact hn⟩,e0,e1,w0];simp only[ne_eq,not_true,if_false];rw[w1];simp only[not_true,if_false];unfold DevS.sync;rw[show (⟨(DevS.new n).sec,[(0,(oI limit).bytes),(1,(oJ limit).bytes)],false,0,2,2⟩:DevS).eu=true from rfl,if_pos rfl];refine Prod.ext ?_ rfl;show DevS.synced (⟨(DevS.new n).sec,[(0,(oI limit).bytes),(1,(oJ limit).bytes)],false,0,3,2⟩:DevS)=_;unfold DevS.synced cn;simp only[l0]
 congr 1
 refine List.map_congr_left (fun i hi=> ?_);have hi':i<n:=List.mem_range.1 hi;unfold DevS.aG DevS.waits ba;by_cases h0:i=0
 ·subst h0
  simp
 ·by_cases h1:i=1
  ·subst h1
   simp
  ·have h0':(0==i)=false:=by simpa using fun e=>h0 e.symm
   have h1':(1==i)=false:=by simpa using fun e=>h1 e.symm
   simp[h0,h1,h0',h1',DevS.new,hi']
theorem ue{d:DevS}{i:Nat}(ho:d.off=false)(hr:d.row=[])(hi:i<d.sec.length):d.read (i:Int)=(d.sec[i],0):=by
 unfold DevS.read;rw[DevS.iB.2 ⟨by omega,by omega⟩,ho,if_pos rfl,if_neg (by simp),Int.toNat_natCast];have:d.aG i=d.sec[i]:=by
  unfold DevS.aG DevS.waits;rw[hr];simp[ba,hi]
 rw[this]
theorem LM{n:Nat}{limit:Int}(hn:2<=n):(cn n limit).read 0=((oI limit).bytes,0)/\(cn n limit).read 1=((oJ limit).bytes,0):=by
 have l:(cn n limit).sec.length=n:=by simp[cn]
 have h0:=ue (d:=cn n limit) (i:=0) rfl rfl (by omega);have h1:=ue (d:=cn n limit) (i:=1) rfl rfl (by omega);refine⟨h0.trans ?_,h1.trans ?_⟩
 ·simp[cn]
 ·simp[cn]
theorem DP{limit:Int}(h:4<=limit/\limit<=512):C1 (oI limit).bytes (oJ limit).bytes=true:=by
 obtain⟨a0,b0⟩:=sF (yi h);obtain⟨a1,b1⟩:=sF (yj h);have t0:eC (oI limit).bytes=0:=congrArg aL.t b0;have t1:eC (oJ limit).bytes=1:=congrArg aL.t b1;unfold C1;rw[a1,t0,t1];simp
def qR (limit:Int):eR:=⟨oJ limit,oI limit,true,none,[]⟩
theorem Ai{n:Nat}{limit:Int}(h:4<=limit/\limit<=512)(hn:4*limit<=(n:Int)):dQ (cn n limit)=0/\kQ (cn n limit)=qR limit:=by
 obtain⟨r0,r1⟩:=LM (n:=n) (limit:=limit) (by omega);obtain⟨a0,b0⟩:=sF (yi h);obtain⟨a1,b1⟩:=sF (yj h);have hw:=DP h;have hs:gZ (oI limit).bytes (oJ limit).bytes=(oJ limit).bytes:=by unfold gZ;rw[hw];rfl
 have l:(cn n limit).sec.length=n:=by simp[cn]
 have hl:fw (oJ limit).bytes=limit:=congrArg aL.l b1;constructor
 ·unfold dQ
  rw[r0,r1,if_neg (by simp),if_neg (by simp),hs,if_pos ⟨a1,by rw[hl,l];omega⟩]
 ·unfold kQ B5 qR
  rw[r0,r1,hs,hw,b1];simp only[if_true];rw[a0,b0]
end Go.Proofs.YtjbcbnemdhbhbaaGreatDoor
namespace Go.Proofs.YtjbcbnemdhbhbaaGreatDoor
open Go.Proofs.Tryz
open Go.RowKit
open Go.PlainAid
def FH (m:aL) (w:AI) (e:aci) (w':AI):Prop:=e= .returned (.agg #[.int .i64 m.t,.int .i64 m.r,.int .i64 m.f,.int .i64 m.p,.int .i64 m.l])/\No w.heap.size w w'
theorem mN{w:AI}{q:Nat}{T:List Nat}{g:Nat}{P:eR}(h:Pg w q T g P):
  aag prog 55 #[.pointer (some ⟨q,0,none⟩)] w (FH P.m w):=by
 obtain⟨sl,lg,h⟩:=h;obtain⟨c0,c1,c2,c3,c4,c5,c6,c7,c8,c9,Ho,CN,rQ,wh⟩:=h.cells.jM;have aI:=h.cells.lt;clear h;go_enter func55,ntmps55
 go_wp2_with fail
 exact bodyPost_ret (v:= .agg #[.int .i64 P.m.t,.int .i64 P.m.r,.int .i64 P.m.f,.int .i64 P.m.p,.int .i64 P.m.l]) (by simp[results,results55,go_sem]) rfl ⟨rfl,(IN _ w).alloc (AS _) _⟩
theorem wH{g:Nat}{S:List Nat}{D D':DevS}{w:AI}(hd:Dev w g S D)(limit:Int)(hr:aO w)(hS:0∉S)(hb:D.steps<=999999990)(h:4<=limit/\limit<=512/\4*limit<=(D.sec.length:Int))(r:Int)(hf:eS D limit=(D',r)):
  aag prog 98 #[ptr g,.int .i64 limit] w (gl g S D' (.int .i64 r) w):=by
 have h1:=Ik hd limit hr hS hb h;rw[hf]at h1;exact h1
def G9 (g:Nat) (P:eR) (w:AI) (e:aci) (w':AI):Prop:=
 ∃q,w.heap.size<=q/\e= .returned (.tuple #[.pointer (some ⟨q,0,none⟩),.int .i64 0])/\Pg w' q [q] g P/\No w.heap.size w w'
theorem GA{g:Nat}{S:List Nat}{D:DevS}{P:eR}{w:AI}(hd:Dev w g S D)(hr:aO w)(hb:D.steps<=1000000000)(h0:dQ D=0)(hP:kQ D=P):
  aag prog 99 #[ptr g] w (G9 g P w):=by
 refine(Nw hd hr hb).mono ?_;rintro e w' ⟨hb,⟨h1,_⟩|⟨_,q,h2,h3,h4⟩⟩
 ·exact absurd h0 h1
 ·exact⟨q,h2,h3,by rw[<-hP];exact h4,hb⟩
structure Made (w w':AI) (g q:Nat) (S T:List Nat) (D:DevS) (P:eR):Prop where
 dev:Dev w' g S D
 pg:Pg w' q T g P
 bel:No w.heap.size w w'
 amJ:∀b∈S,w.heap.size<=b
 amK:∀b∈T,w.heap.size<=b
 apart:∀b∈T,b∉S
theorem BS{g:Nat}{S:List Nat}{D':DevS}{w0 w w':AI}(hb:No w0.heap.size w0 w)(hS:∀b∈S,w0.heap.size<=b)(h:∃S',Dev w' g S' D'/\ah S w w'/\aj w S S'):
  ∃S',Dev w' g S' D'/\No w0.heap.size w0 w'/\∀b∈S',w0.heap.size<=b:=by
 obtain⟨S',h1,h2,h3⟩:=h;exact⟨S',h1,hb.trans (h2.below hb.size hS),fun b F2=>(h3 b F2).elim (hS b) (fun h=>abE hb.size h)⟩
theorem GH{w:AI}(h:aO w){S:List Nat}(hS:∀b∈S,w.heap.size<=b):0∉S:=fun hx=>by
 have:=hS _ hx;have:=h.lt;omega
abbrev aH (t0:Int) (u0:Bool) (t1:Int) (u1:Bool) (t2:Int) (u2:Bool) (t3:Int) (u3:Bool):Array IS:=
 #[.int .i64 t0,.bool u0,.int .i64 t1,.bool u1,.int .i64 t2,.bool u2,.int .i64 t3,.bool u3]
theorem Bk.eight{w:AI}{g:Nat}{t:abW}{c0 c1 c2 c3 c4 c5 c6 c7:IS}(h:Bk w g t #[c0,c1,c2,c3,c4,c5,c6,c7]):
  w.cell? ⟨g,0,none⟩=some c0/\w.cell? ⟨g,1,none⟩=some c1/\w.cell? ⟨g,2,none⟩=some c2/\w.cell? ⟨g,3,none⟩=some c3/\w.cell? ⟨g,4,none⟩=some c4/\w.cell? ⟨g,5,none⟩=some c5/\w.cell? ⟨g,6,none⟩=some c6/\w.cell? ⟨g,7,none⟩=some c7:=
 ⟨by simpa using h.cell 0,by simpa using h.cell 1,by simpa using h.cell 2,by simpa using h.cell 3,by simpa using h.cell 4,by simpa using h.cell 5,by simpa using h.cell 6,by simpa using h.cell 7⟩
structure St where
 a:Option Int
 b:Option Int
 c:Option Int
 d:Option Int
def St.empty:St:=⟨none,none,none,none⟩
def St.cells (s:St):Array IS:=aH (s.a.getD 0) s.a.isSome (s.b.getD 0) s.b.isSome (s.c.getD 0) s.c.isSome (s.d.getD 0) s.d.isSome
def mH (n:Int):Bool:=decide (0<=n)&&decide (n<=1099511627776)
def St.enter (s:St) (n:Int):St×Int×Int:=
 if mH n then
  match s.a,s.b,s.c,s.d with
  | none,_,_,_=>({ s with a:=some n },0,0)
  | some _,none,_,_=>({ s with b:=some n },1,0)
  | some _,some _,none,_=>({ s with c:=some n },2,0)
  | some _,some _,some _,none=>({ s with d:=some n },3,0)
  | some _,some _,some _,some _=>(s,0,9)
 else (s,0,1)
def St.at (s:St) (i:Int):Option Int:=if i=0 then s.a else if i=1 then s.b else if i=2 then s.c else if i=3 then s.d else none
def St.clear (s:St) (i:Int):St:=if i=0 then { s with a:=none } else if i=1 then { s with b:=none } else if i=2 then { s with c:=none } else if i=3 then { s with d:=none } else s
def St.leave (s:St) (i:Int):St×Int:=
 if i<0\/3<i then (s,1)else match s.at i with|none=>(s,7)|some _=>(s.clear i,0)
def St.reads (s:St) (i:Int):Int×Bool:=match s.at i with|none=>(0,false)|some n=>(n,true)
def ez (i e:Int) (g:Nat) (cs:Array IS) (w:AI) (en:aci) (w':AI):Prop:=
 en= .returned (.tuple #[.int .i64 i,.int .i64 e])/\Bk w' g 195 cs/\ah [g] w w'
def dV (e:Int) (g:Nat) (cs:Array IS) (w:AI) (en:aci) (w':AI):Prop:=
 en= .returned (.int .i64 e)/\Bk w' g 195 cs/\ah [g] w w'
theorem P8(g:Nat)(n t0 t1 t2 t3:Int)(u1 u2 u3:Bool)(w:AI)(hb:Bk w g 195 (aH t0 false t1 u1 t2 u2 t3 u3))(h0:0<=n)(h1:n<=1099511627776):
  aag prog 56 #[.pointer (some ⟨g,0,none⟩),.int .i64 n] w (ez 0 0 g (aH n true t1 u1 t2 u2 t3 u3) w):=by
 have HB:=sh hb;obtain⟨c0,c1,c2,c3,c4,c5,c6,c7⟩:=hb.eight;have g0:=hb.frozen 0;have g1:=hb.frozen 1;have q0:decide (n<0)=false:=by simp;omega
 have q1:decide (1099511627776<n)=false:=by simp;omega
 clear hb;go_enter func56,ntmps56
 go_wp2_with fail
 refine acd 5 ?_
 repeat any_goals (rw[abK];go_wp2_with fail)
 go_ret2
 exact⟨rfl,(HB.out.put 0 _).put 1 _,((ah.refl _ _).setCell (.inl (by simp)) _).setCell (.inl (by simp)) _⟩
theorem P9(g:Nat)(n t0 t1 t2 t3:Int)(u2 u3:Bool)(w:AI)(hb:Bk w g 195 (aH t0 true t1 false t2 u2 t3 u3))(h0:0<=n)(h1:n<=1099511627776):
  aag prog 56 #[.pointer (some ⟨g,0,none⟩),.int .i64 n] w (ez 1 0 g (aH t0 true n true t2 u2 t3 u3) w):=by
 have HB:=sh hb;obtain⟨c0,c1,c2,c3,c4,c5,c6,c7⟩:=hb.eight;have g0:=hb.frozen 2;have g1:=hb.frozen 3;have q0:decide (n<0)=false:=by simp;omega
 have q1:decide (1099511627776<n)=false:=by simp;omega
 clear hb;go_enter func56,ntmps56
 go_wp2_with fail
 refine acd 5 ?_
 repeat any_goals (rw[abK];go_wp2_with fail)
 go_ret2
 exact⟨rfl,(HB.out.put 2 _).put 3 _,((ah.refl _ _).setCell (.inl (by simp)) _).setCell (.inl (by simp)) _⟩
theorem Qa(g:Nat)(n t0 t1 t2 t3:Int)(u3:Bool)(w:AI)(hb:Bk w g 195 (aH t0 true t1 true t2 false t3 u3))(h0:0<=n)(h1:n<=1099511627776):
  aag prog 56 #[.pointer (some ⟨g,0,none⟩),.int .i64 n] w (ez 2 0 g (aH t0 true t1 true n true t3 u3) w):=by
 have HB:=sh hb;obtain⟨c0,c1,c2,c3,c4,c5,c6,c7⟩:=hb.eight;have g0:=hb.frozen 4;have g1:=hb.frozen 5;have q0:decide (n<0)=false:=by simp;omega
 have q1:decide (1099511627776<n)=false:=by simp;omega
 clear hb;go_enter func56,ntmps56
 go_wp2_with fail
 refine acd 5 ?_
 repeat any_goals (rw[abK];go_wp2_with fail)
 go_ret2
 exact⟨rfl,(HB.out.put 4 _).put 5 _,((ah.refl _ _).setCell (.inl (by simp)) _).setCell (.inl (by simp)) _⟩
theorem Qb(g:Nat)(n t0 t1 t2 t3:Int)(w:AI)(hb:Bk w g 195 (aH t0 true t1 true t2 true t3 false))(h0:0<=n)(h1:n<=1099511627776):
  aag prog 56 #[.pointer (some ⟨g,0,none⟩),.int .i64 n] w (ez 3 0 g (aH t0 true t1 true t2 true n true) w):=by
 have HB:=sh hb;obtain⟨c0,c1,c2,c3,c4,c5,c6,c7⟩:=hb.eight;have g0:=hb.frozen 6;have g1:=hb.frozen 7;have q0:decide (n<0)=false:=by simp;omega
 have q1:decide (1099511627776<n)=false:=by simp;omega
 clear hb;go_enter func56,ntmps56
 go_wp2_with fail
 refine acd 5 ?_
 repeat any_goals (rw[abK];go_wp2_with fail)
 go_ret2
 exact⟨rfl,(HB.out.put 6 _).put 7 _,((ah.refl _ _).setCell (.inl (by simp)) _).setCell (.inl (by simp)) _⟩
theorem Qc(g:Nat)(n t0 t1 t2 t3:Int)(w:AI)(hb:Bk w g 195 (aH t0 true t1 true t2 true t3 true))(h0:0<=n)(h1:n<=1099511627776):
  aag prog 56 #[.pointer (some ⟨g,0,none⟩),.int .i64 n] w (ez 0 9 g (aH t0 true t1 true t2 true t3 true) w):=by
 have HB:=sh hb;obtain⟨c0,c1,c2,c3,c4,c5,c6,c7⟩:=hb.eight;have g0:=hb.frozen 8;have g1:=hb.frozen 9;have q0:decide (n<0)=false:=by simp;omega
 have q1:decide (1099511627776<n)=false:=by simp;omega
 clear hb;go_enter func56,ntmps56
 go_wp2_with fail
 refine acd 5 ?_
 repeat any_goals (rw[abK];go_wp2_with fail)
 go_ret2
 exact⟨rfl,HB.out,ah.refl _ _⟩
theorem H9(g:Nat)(n:Int)(cs:Array IS)(w:AI)(hb:Bk w g 195 cs)(h0:n<0\/1099511627776<n):
  aag prog 56 #[.pointer (some ⟨g,0,none⟩),.int .i64 n] w (ez 0 1 g cs w):=by
 have HB:=sh hb;have hq:decide (n<0)=true\/(decide (n<0)=false/\decide (1099511627776<n)=true):=by simp;omega
 clear hb;rcases hq with q0|⟨q0,q1⟩;all_goals
  go_enter func56,ntmps56
  go_wp2_with fail
  go_ret2
  exact⟨rfl,HB.out,ah.refl _ _⟩
theorem wB(g:Nat)(n:Int)(s:St)(w:AI)(hb:Bk w g 195 s.cells):
  aag prog 56 #[.pointer (some ⟨g,0,none⟩),.int .i64 n] w (ez (s.enter n).2.1 (s.enter n).2.2 g (s.enter n).1.cells w):=by
 cases hr:mH n with
 | false=>
  have e:s.enter n=(s,0,1):=by unfold St.enter;rw[hr];rfl
  rw[e];refine H9 g n s.cells w hb ?_;unfold mH at hr;simp at hr;omega
 | true=>
  have h2:0<=n/\n<=1099511627776:=by unfold mH at hr;simpa using hr
  have e:s.enter n=(match s.a,s.b,s.c,s.d with
   | none,_,_,_=>({ s with a:=some n },0,0)
   | some _,none,_,_=>({ s with b:=some n },1,0)
   | some _,some _,none,_=>({ s with c:=some n },2,0)
   | some _,some _,some _,none=>({ s with d:=some n },3,0)
   | some _,some _,some _,some _=>(s,0,9)):=by unfold St.enter;rw[hr];rfl
  rw[e];obtain⟨a,b,c,d⟩:=s;cases a with
  | none=>exact P8 g n _ _ _ _ _ _ _ w hb h2.1 h2.2
  | some a=>
   cases b with
   | none=>exact P9 g n _ _ _ _ _ _ w hb h2.1 h2.2
   | some b=>
    cases c with
    | none=>exact Qa g n _ _ _ _ _ w hb h2.1 h2.2
    | some c=>
     cases d with
     | none=>exact Qb g n _ _ _ _ w hb h2.1 h2.2
     | some d=>exact Qc g n _ _ _ _ w hb h2.1 h2.2
theorem M3(g:Nat)(t0 t1 t2 t3:Int)(u1 u2 u3:Bool)(w:AI)(hb:Bk w g 195 (aH t0 false t1 u1 t2 u2 t3 u3)):
  aag prog 60 #[.pointer (some ⟨g,0,none⟩),.int .i64 0] w (dV 7 g (aH t0 false t1 u1 t2 u2 t3 u3) w):=by
 have HB:=sh hb;obtain⟨c0,c1,c2,c3,c4,c5,c6,c7⟩:=hb.eight;have g0:=hb.frozen 0;have g1:=hb.frozen 1;clear hb;go_enter func60,ntmps60
 go_wp2_with fail
 go_ret
 exact⟨rfl,HB.out,ah.refl _ _⟩
theorem M4(g:Nat)(t0 t1 t2 t3:Int)(u1 u2 u3:Bool)(w:AI)(hb:Bk w g 195 (aH t0 true t1 u1 t2 u2 t3 u3)):
  aag prog 60 #[.pointer (some ⟨g,0,none⟩),.int .i64 0] w (dV 0 g (aH 0 false t1 u1 t2 u2 t3 u3) w):=by
 have HB:=sh hb;obtain⟨c0,c1,c2,c3,c4,c5,c6,c7⟩:=hb.eight;have g0:=hb.frozen 0;have g1:=hb.frozen 1;clear hb;go_enter func60,ntmps60
 go_wp2_with fail
 go_ret
 exact⟨rfl,(HB.out.put 0 _).put 1 _,((ah.refl _ _).setCell (.inl (by simp)) _).setCell (.inl (by simp)) _⟩
theorem M5(g:Nat)(t0 t1 t2 t3:Int)(u0 u2 u3:Bool)(w:AI)(hb:Bk w g 195 (aH t0 u0 t1 false t2 u2 t3 u3)):
  aag prog 60 #[.pointer (some ⟨g,0,none⟩),.int .i64 1] w (dV 7 g (aH t0 u0 t1 false t2 u2 t3 u3) w):=by
 have HB:=sh hb;obtain⟨c0,c1,c2,c3,c4,c5,c6,c7⟩:=hb.eight;have g0:=hb.frozen 2;have g1:=hb.frozen 3;clear hb;go_enter func60,ntmps60
 go_wp2_with fail
 go_ret
 exact⟨rfl,HB.out,ah.refl _ _⟩
theorem M6(g:Nat)(t0 t1 t2 t3:Int)(u0 u2 u3:Bool)(w:AI)(hb:Bk w g 195 (aH t0 u0 t1 true t2 u2 t3 u3)):
  aag prog 60 #[.pointer (some ⟨g,0,none⟩),.int .i64 1] w (dV 0 g (aH t0 u0 0 false t2 u2 t3 u3) w):=by
 have HB:=sh hb;obtain⟨c0,c1,c2,c3,c4,c5,c6,c7⟩:=hb.eight;have g0:=hb.frozen 2;have g1:=hb.frozen 3;clear hb;go_enter func60,ntmps60
 go_wp2_with fail
 go_ret
 exact⟨rfl,(HB.out.put 2 _).put 3 _,((ah.refl _ _).setCell (.inl (by simp)) _).setCell (.inl (by simp)) _⟩
theorem M7(g:Nat)(t0 t1 t2 t3:Int)(u0 u1 u3:Bool)(w:AI)(hb:Bk w g 195 (aH t0 u0 t1 u1 t2 false t3 u3)):
  aag prog 60 #[.pointer (some ⟨g,0,none⟩),.int .i64 2] w (dV 7 g (aH t0 u0 t1 u1 t2 false t3 u3) w):=by
 have HB:=sh hb;obtain⟨c0,c1,c2,c3,c4,c5,c6,c7⟩:=hb.eight;have g0:=hb.frozen 4;have g1:=hb.frozen 5;clear hb;go_enter func60,ntmps60
 go_wp2_with fail
 go_ret
 exact⟨rfl,HB.out,ah.refl _ _⟩
theorem M8(g:Nat)(t0 t1 t2 t3:Int)(u0 u1 u3:Bool)(w:AI)(hb:Bk w g 195 (aH t0 u0 t1 u1 t2 true t3 u3)):
  aag prog 60 #[.pointer (some ⟨g,0,none⟩),.int .i64 2] w (dV 0 g (aH t0 u0 t1 u1 0 false t3 u3) w):=by
 have HB:=sh hb;obtain⟨c0,c1,c2,c3,c4,c5,c6,c7⟩:=hb.eight;have g0:=hb.frozen 4;have g1:=hb.frozen 5;clear hb;go_enter func60,ntmps60
 go_wp2_with fail
 go_ret
 exact⟨rfl,(HB.out.put 4 _).put 5 _,((ah.refl _ _).setCell (.inl (by simp)) _).setCell (.inl (by simp)) _⟩
theorem M9(g:Nat)(t0 t1 t2 t3:Int)(u0 u1 u2:Bool)(w:AI)(hb:Bk w g 195 (aH t0 u0 t1 u1 t2 u2 t3 false)):
  aag prog 60 #[.pointer (some ⟨g,0,none⟩),.int .i64 3] w (dV 7 g (aH t0 u0 t1 u1 t2 u2 t3 false) w):=by
 have HB:=sh hb;obtain⟨c0,c1,c2,c3,c4,c5,c6,c7⟩:=hb.eight;have g0:=hb.frozen 6;have g1:=hb.frozen 7;clear hb;go_enter func60,ntmps60
 go_wp2_with fail
 go_ret
 exact⟨rfl,HB.out,ah.refl _ _⟩
theorem Na(g:Nat)(t0 t1 t2 t3:Int)(u0 u1 u2:Bool)(w:AI)(hb:Bk w g 195 (aH t0 u0 t1 u1 t2 u2 t3 true)):
  aag prog 60 #[.pointer (some ⟨g,0,none⟩),.int .i64 3] w (dV 0 g (aH t0 u0 t1 u1 t2 u2 0 false) w):=by
 have HB:=sh hb;obtain⟨c0,c1,c2,c3,c4,c5,c6,c7⟩:=hb.eight;have g0:=hb.frozen 6;have g1:=hb.frozen 7;clear hb;go_enter func60,ntmps60
 go_wp2_with fail
 go_ret
 exact⟨rfl,(HB.out.put 6 _).put 7 _,((ah.refl _ _).setCell (.inl (by simp)) _).setCell (.inl (by simp)) _⟩
theorem I5(g:Nat)(i:Int)(cs:Array IS)(w:AI)(hb:Bk w g 195 cs)(h:i<0\/3<i):
  aag prog 60 #[.pointer (some ⟨g,0,none⟩),.int .i64 i] w (dV 1 g cs w):=by
 have HB:=sh hb;have hq:decide (i<0)=true\/(decide (i<0)=false/\decide (4<=i)=true):=by simp;omega
 clear hb;rcases hq with q0|⟨q0,q1⟩;all_goals
  go_enter func60,ntmps60
  go_wp2_with fail
  go_ret
  exact⟨rfl,HB.out,ah.refl _ _⟩
theorem wX(g:Nat)(i:Int)(s:St)(w:AI)(hb:Bk w g 195 s.cells):
  aag prog 60 #[.pointer (some ⟨g,0,none⟩),.int .i64 i] w (dV (s.leave i).2 g (s.leave i).1.cells w):=by
 by_cases h:i<0\/3<i
 ·have e:s.leave i=(s,1):=by unfold St.leave;rw[if_pos h]
  rw[e];exact I5 g i s.cells w hb h
 ·have hi:i=0\/i=1\/i=2\/i=3:=by omega
  obtain⟨a,b,c,d⟩:=s;rcases hi with rfl|rfl|rfl|rfl
  ·cases a with
   | none=>exact M3 g _ _ _ _ _ _ _ w hb
   | some a=>exact M4 g _ _ _ _ _ _ _ w hb
  ·cases b with
   | none=>exact M5 g _ _ _ _ _ _ _ w hb
   | some b=>exact M6 g _ _ _ _ _ _ _ w hb
  ·cases c with
   | none=>exact M7 g _ _ _ _ _ _ _ w hb
   | some c=>exact M8 g _ _ _ _ _ _ _ w hb
  ·cases d with
   | none=>exact M9 g _ _ _ _ _ _ _ w hb
   | some d=>exact Na g _ _ _ _ _ _ _ w hb
theorem xh(w:AI):aag prog 101 #[] w fun e w'=>e= .returned (.pointer (some ⟨w.heap.size,0,none⟩))/\Bk w' w.heap.size 195 St.empty.cells/\No w.heap.size w w':=by
 go_enter func101,ntmps101
 go_wp2_with fail
 go_ret
 exact⟨rfl,Bk.new _ _ _,(IN _ _).alloc (AS _) _⟩
end Go.Proofs.YtjbcbnemdhbhbaaGreatDoor
namespace Go.Proofs.YtjbcbnemdhbhbaaGreatDoor
open Go.Proofs.Tryz
open Go.RowKit
structure Db (w:AI) (b q r f g:Nat) (P:eR) (s:St):Prop where
 top:Bk w b 99 #[.pointer (some ⟨q,0,none⟩),.pointer (some ⟨r,0,none⟩),.pointer (some ⟨f,0,none⟩),.slice none 0 0,.pointer none]
 pg:Pg w q [q] g P
 rd:Bk w r 195 s.cells
 fr:∃tc,Bk w f 165 tc/\tc[0]? =some (.slice none 0 0)
theorem Db.off{w w':AI}{b q r f g:Nat}{P:eR}{s:St}{U:List Nat}(h:Db w b q r f g P s)(ho:ah U w w')(hU:∀x∈[b,q,r,f],x∉U):Db w' b q r f g P s:=by
 obtain⟨tc,h1,h2⟩:=h.fr;exact⟨ho.bk h.top (hU b (by simp)),h.pg.off ho (fun x hx=>by rw[By]at hx;subst hx;exact hU x (by simp)),ho.bk h.rd (hU r (by simp)),tc,ho.bk h1 (hU f (by simp)),h2⟩
theorem Db.below{w w':AI}{b q r f g:Nat}{P:eR}{s:St}(h:Db w b q r f g P s)(hb:No w.heap.size w w'):Db w' b q r f g P s:=h.off (ah.ae hb []) (by simp)
theorem Db.EP{w:AI}{b q r f g:Nat}{P:eR}{s:St}(h:Db w b q r f g P s):∃cs,Bk w q 188 cs:=by
 obtain⟨sl,lg,hp⟩:=h.pg;exact⟨_,hp.cells⟩
theorem Db.ner{w:AI}{b q r f g:Nat}{P:eR}{s:St}(h:Db w b q r f g P s):b≠r/\q≠r/\f≠r:=by
 obtain⟨cs,hp⟩:=h.EP;obtain⟨tc,h1,-⟩:=h.fr;exact⟨h.top.ne h.rd (by decide),hp.ne h.rd (by decide),h1.ne h.rd (by decide)⟩
theorem Db.pk{w w':AI}{b q r f g:Nat}{P:eR}{s s':St}(h:Db w b q r f g P s)(ho:ah [r] w w')(hr:Bk w' r 195 s'.cells):Db w' b q r f g P s':=by
 obtain⟨n1,n2,n3⟩:=h.ner;obtain⟨tc,h1,h2⟩:=h.fr;exact⟨ho.bk h.top (by simpa using n1),h.pg.off ho (fun x hx=>by rw[By]at hx;subst hx;simpa using n2),hr,tc,ho.bk h1 (by simpa using n3),h2⟩
theorem Nl(t r f p l:Int)(W:AI):Sem.run prog (Instr.field 40 (.agg #[.int .i64 t,.int .i64 r,.int .i64 f,.int .i64 p,.int .i64 l]) 0) W= .ok (.int .i64 t) W:=by
 have h:=underlying40;simp[Instr.field,run_underlying h,part,asAgg,go_sem]
theorem Tz(t r f p l:Int)(W:AI):Sem.run prog (Instr.field 40 (.agg #[.int .i64 t,.int .i64 r,.int .i64 f,.int .i64 p,.int .i64 l]) 2) W= .ok (.int .i64 f) W:=by
 have h:=underlying40;simp[Instr.field,run_underlying h,part,asAgg,go_sem]
theorem Bk.GL{w:AI}{q:Nat}{t:abW}{v0 v1 v2 v3 v4:IS}(h:Bk w q t #[v0,v1,v2,v3,v4])(a0 a1 a2 a3 a4:IS):
  (w.setCell ⟨q,0,none⟩ a0).cell? ⟨q,0,none⟩=some a0/\((w.setCell ⟨q,0,none⟩ a0).setCell ⟨q,1,none⟩ a1).cell? ⟨q,1,none⟩=some a1/\(((w.setCell ⟨q,0,none⟩ a0).setCell ⟨q,1,none⟩ a1).setCell ⟨q,2,none⟩ a2).cell? ⟨q,2,none⟩=some a2/\
  ((((w.setCell ⟨q,0,none⟩ a0).setCell ⟨q,1,none⟩ a1).setCell ⟨q,2,none⟩ a2).setCell ⟨q,3,none⟩ a3).cell? ⟨q,3,none⟩=some a3/\(((((w.setCell ⟨q,0,none⟩ a0).setCell ⟨q,1,none⟩ a1).setCell ⟨q,2,none⟩ a2).setCell ⟨q,3,none⟩ a3).setCell ⟨q,4,none⟩ a4).cell? ⟨q,4,none⟩=some a4:=by
 have h0:=h.put 0 a0;have h1:=h0.put 1 a1;have h2:=h1.put 2 a2;have h3:=h2.put 3 a3;have h4:=h3.put 4 a4;exact⟨h0.cell 0,h1.cell 1,h2.cell 2,h3.cell 3,h4.cell 4⟩
theorem nB{w:AI}{b q r f g:Nat}{P:eR}{s:St}(h:Db w b q r f g P s):aag prog 14 #[.pointer (some ⟨b,0,none⟩)] w (FH P.m w):=by
 have c0:=h.top.cell 0;have lb:=h.top.lt;have HP:=sh (mN (h.pg.below ((IN _ w).alloc (AS _) (.cells #[.int .i64 0,.int .i64 0,.int .i64 0,.int .i64 0,.int .i64 0] 40))));clear h;go_enter func14,ntmps14
 go_wp2_with fail
 refine HP.out.mono ?_;rintro e w1 ⟨rfl,ar⟩;have hz:=af (Bk.new w 40 #[.int .i64 0,.int .i64 0,.int .i64 0,.int .i64 0,.int .i64 0]) ar;have HZ:=sh hz;have HB:=sh (((IN _ w).alloc (AS _) (.cells #[.int .i64 0,.int .i64 0,.int .i64 0,.int .i64 0,.int .i64 0] 40)).trans (ar.mono (by simp)));have lz:=hz.lt;obtain⟨x0,x1,x2,x3,x4⟩:=hz.oH;have y0:=hz.frozen 0;have y1:=hz.frozen 1;have y2:=hz.frozen 2;have y3:=hz.frozen 3;have y4:=hz.frozen 4;clear hz ar;go_wp2_with fail
 obtain⟨s0,s1,s2,s3,s4⟩:=HZ.out.GL (.int .i64 P.m.t) (.int .i64 P.m.r) (.int .i64 P.m.f) (.int .i64 P.m.p) (.int .i64 P.m.l);refine bodyPost_ret (v:= .agg #[.int .i64 P.m.t,.int .i64 P.m.r,.int .i64 P.m.f,.int .i64 P.m.p,.int .i64 P.m.l]) (by simp[results,results14,go_sem,lz,s0,s1,s2,s3,s4]) rfl ⟨rfl,?_⟩;exact((ah.ae HB.out []).then ((((((ah.refl [w.heap.size] w1).setCell (.inl (by simp)) _).setCell (.inl (by simp)) _).setCell (.inl (by simp)) _).setCell (.inl (by simp)) _).setCell (.inl (by simp)) _) (fun x hx=>by rw[By]at hx;subst hx;exact .inr (AS _))).below (AS _) (by simp)
theorem LJ(W:AI):(binOp .eql 49 (.slice none 0 0) (.slice none 0 0)).run prog W= .ok (.bool true) W:=by
 exact run_eql_nil_slice W 49 62 none 0 0 0 0 underlying49
theorem yd(w:AI):aag prog 102 #[.slice none 0 0] w (fun e w'=>e= .returned (.slice none 0 0)/\No w.heap.size w w'):=by
 have heq:∀W:AI,(binOp .eql 49 (.slice none 0 0) (.slice none 0 0)).run prog W= .ok (.bool true) W:=fun W=>LJ W;go_enter func102,ntmps102
 go_wp2_with fail
 go_ret
 exact⟨rfl,IN _ _⟩
theorem sV{w:AI}{b q r f g:Nat}{P:eR}{s:St}(h:Db w b q r f g P s):aag prog 21 #[.pointer (some ⟨b,0,none⟩)] w (fun e w'=>e= .returned (.slice none 0 0)/\No w.heap.size w w'):=by
 have c2:=h.top.cell 2;have lb:=h.top.lt;obtain⟨tc,h1,h2⟩:=h.fr;have f0:=(h1.cell 0).trans h2;have lf:=h1.lt;have HC:=sh fun(W:AI)=>yd W;have HA:Hid (aag prog 61 #[.pointer (some ⟨f,0,none⟩)] w (fun e w'=>e= .returned (.slice none 0 0)/\No w.heap.size w w')):=by
  show aag _ _ _ _ _;clear h h1 h2 c2 lb;go_enter func61,ntmps61
  go_wp2_with fail
  refine(HC.out _).mono ?_;rintro e w1 ⟨rfl,hb⟩;have HB:=sh hb;clear hb;go_wp2_with fail
  go_ret
  exact⟨rfl,HB.out⟩
 clear h h1 h2 f0 lf;go_enter func21,ntmps21
 go_wp2_with fail
 refine HA.out.mono ?_;rintro e w1 ⟨rfl,hb⟩;have HB:=sh hb;clear hb;go_wp2_with fail
 go_ret
 exact⟨rfl,HB.out⟩
def kd (w:AI) (s b:Nat) (i:Int) (m:aL) (over:Bool):Prop:=Bk w s 115 #[.pointer (some ⟨b,0,none⟩),.int .i64 i,.int .i64 m.t,.int .i64 m.r,.int .i64 m.f,.int .i64 m.p,.int .i64 m.l,.slice none 0 0,.bool over]
theorem yR{w:AI}{sp b:Nat}{i:Int}{m:aL}(h:kd w sp b i m false):aag prog 57 #[.pointer (some ⟨sp,0,none⟩)] w (fun e w'=>e= .returned (.int .i64 0)/\w=w'):=by
 have c8:=Bk.cell h 8;have ls:=Bk.lt h;clear h;go_enter func57,ntmps57
 go_wp2_with fail
 go_ret
 exact⟨rfl,rfl⟩
theorem RI{w:AI}{b q r f g:Nat}{P:eR}{s s':St}{i:Int}(h:Db w b q r f g P s)(hE:s.enter P.m.t=(s',i,0)):aag prog 15 #[.pointer (some ⟨b,0,none⟩)] w (fun e w'=>∃sp,e= .returned (.tuple #[.pointer (some ⟨sp,0,none⟩),.int .i64 0])/\ah [r] w w'/\Db w' b q r f g P s'/\kd w' sp b i P.m false/\w.heap.size<=sp):=by
 have lb:=h.top.lt;have hf0:=Nl;have HD:=sh h;have HM:=sh (nB (h.below (IN _ w).drew));have J6:=sh fun(W:AI) (hW:No w.heap.size w W)=>(show aag prog 56 #[.pointer (some ⟨r,0,none⟩),.int .i64 P.m.t] W (ez i 0 r s'.cells W) from by have:=wB r P.m.t s W (af h.rd hW);rw[hE]at this;exact this);have bH:=sh (show ∀W,ah [r] w W->W.cell? ⟨b,1,none⟩=some (.pointer (some ⟨r,0,none⟩)) from fun W hW=>(hW.bk h.top (by have:=h.ner.1;simpa using this)).cell 1);clear h hE;go_enter func15,ntmps15
 go_wp2_with fail
 go_region_held3 (fun W=>W.cell? ⟨b,1,none⟩=some (.pointer (some ⟨r,0,none⟩))) (first|exact bH.out _ (ah.refl _ _).drew|exact bH.out _ dw.out|exact bH.out _ bO.out) (first
  | (go_at_call 14;refine HM.out.mono ?_;rintro e w1 ⟨rfl,ar⟩;have bh:=sh (show No w.heap.size w w1 from (IN _ w).drew.trans ar);have dw:=sh (ah.ae bh.out [r]);clear ar)
  | (go_at_call 56;refine(J6.out _ bh.out).mono ?_;rintro e w2 ⟨rfl,om,kU⟩;have gM:=sh om;have bO:=sh (dw.out.trans kU);clear om kU))
 all_goals
  have mE:=HD.out.pk bO.out gM.out;have Dg:=sh (nB (mE.below (IN _ w2).drew));have uK:=sh mE;have lb2:=mE.top.lt;have sK:=sh (show ∀W,No w2.heap.size w2 W->W.cell? ⟨b,3,none⟩=some (.slice none 0 0) from fun W hW=>(af uK.out.top hW).cell 3);clear mE;go_wp2_with fail
  go_region_held3 (fun W=>W.cell? ⟨b,3,none⟩=some (.slice none 0 0)) (first|exact sK.out _ (IN _ _).drew|exact sK.out _ dx.out|exact sK.out _ (dx.out.alloc dx.out.size _)) (first
   | (go_at_call 14;refine Dg.out.mono ?_;rintro e w3 ⟨rfl,aQ⟩;have dx:=sh (show No w2.heap.size w2 w3 from (IN _ w2).drew.trans aQ);clear aQ))
  all_goals
   go_wp2_with fail
   go_ret2
   exact⟨w3.heap.size,rfl,(bO.out.trans (ah.ae dx.out [r])).alloc _,(uK.out.below dx.out).off ((ah.refl [] _).alloc _) (by simp),Bk.new w3 _ _,abE bO.out.size dx.out.size⟩
end Go.Proofs.YtjbcbnemdhbhbaaGreatDoor
namespace Go.Proofs.YtjbcbnemdhbhbaaGreatDoor
open Go.Proofs.Tryz
open Go.RowKit
open Go.PlainAid Go.Sort Go.Shelf
set_option linter.unnecessarySimpa false
def Oa (l:List Int):List Int:=l.mergeSort fun x y=>decide (x<=y)
theorem yT(l:List Int):(Oa l).length=l.length:=by unfold Oa;rw[List.length_mergeSort]
def K9 (base:Nat) (v:IS) (zs:List Int) (w:AI) (e:aci) (w':AI):Prop:=
 e= .returned (.tuple #[])/\w'.ownsRow base 3 1 v zs.length ((Oa zs).map (acK .i64))/\w.grownBy w' v.ownBlock
theorem N9(base:Nat)(v:IS)(zs:List Int)(w:AI)(h:w.ownsRow base 3 1 v zs.length (zs.map (acK .i64)))(hl:zs.length<=1000):
  aag prog 79 #[v] w (K9 base v zs w):=by
 have h0:=h;rcases h.2 with⟨rfl,hn⟩|⟨g,cap,cur,rfl,hb,hh,hc,hm,hs,ht⟩
 ·obtain rfl:zs=[]:=List.eq_nil_of_length_eq_zero hn
  refine(AnyM.slices_Sort_int_none Tryz.sortA none 0 w).mono ?_;rintro e w' ⟨rfl,rfl⟩;exact⟨rfl,by simpa[Oa]using h0,World.grownBy.refl _ _⟩
 ·have hH:=holds_of_blockI (ss:=zs) hh (by rw[Nat.mul_one]at ht;exact ht)
  refine(AnyM.slices_Sort_int Tryz.sortA g 0 cap zs w hH (lt_of_block hh) (by omega)).mono ?_;rintro e w' ⟨rfl,n,os,rfl⟩;exact⟨rfl,ownsRow_sortedI (ts:=Oa zs) (yT zs) hb hh hc hm hs,grownBy_sortedI _⟩
def St.liveK (s:St):Nat->List Int
 | 0=>[]
 | 1=>s.a.toList
 | 2=>s.a.toList++s.b.toList
 | 3=>s.a.toList++s.b.toList++s.c.toList
 | _=>s.a.toList++s.b.toList++s.c.toList++s.d.toList
def St.live (s:St):List Int:=s.a.toList++s.b.toList++s.c.toList++s.d.toList
theorem St.Bz(s:St)(k:Nat):(s.liveK k).length<=4:=by
 obtain⟨a,b,c,d⟩:=s
 match k with
 | 0=>simp[St.liveK]
 | 1=>cases a<;>simp[St.liveK]
 | 2=>cases a<;>cases b<;>simp[St.liveK]
 | 3=>cases a<;>cases b<;>cases c<;>simp[St.liveK]
 | k+4=>cases a<;>cases b<;>cases c<;>cases d<;>simp[St.liveK]
def KV (w:AI) (s:St) (k:Nat) (v:IS) (wr:AI):Prop:=
 k<=4/\wr.ownsRow w.heap.size 3 1 v (s.liveK k).length ((s.liveK k).map (acK .i64))/\No w.heap.size w wr
def KW (zs:List Int) (w:AI) (e:aci) (w':AI):Prop:=
 ∃v,e= .returned v/\w'.ownsRow w.heap.size 3 1 v zs.length (zs.map (acK .i64))/\No w.heap.size w w'
theorem IX:(prog.info? 3).map (fun i=>(i.zero,i.size,i.bytes))=some (some (.int .i64 0),1,8):=by kernel_rfl
theorem af4(t0 t1 t2 t3:Int)(u0 u1 u2 u3:Bool)(W:AI):(Instr.index 193 (.agg (aH t0 u0 t1 u1 t2 u2 t3 u3)) (.int .i64 0)).run prog W= .ok (.agg #[.int .i64 t0,.bool u0]) W:=by kernel_rfl
theorem af5(t0 t1 t2 t3:Int)(u0 u1 u2 u3:Bool)(W:AI):(Instr.index 193 (.agg (aH t0 u0 t1 u1 t2 u2 t3 u3)) (.int .i64 1)).run prog W= .ok (.agg #[.int .i64 t1,.bool u1]) W:=by kernel_rfl
theorem af6(t0 t1 t2 t3:Int)(u0 u1 u2 u3:Bool)(W:AI):(Instr.index 193 (.agg (aH t0 u0 t1 u1 t2 u2 t3 u3)) (.int .i64 2)).run prog W= .ok (.agg #[.int .i64 t2,.bool u2]) W:=by kernel_rfl
theorem af7(t0 t1 t2 t3:Int)(u0 u1 u2 u3:Bool)(W:AI):(Instr.index 193 (.agg (aH t0 u0 t1 u1 t2 u2 t3 u3)) (.int .i64 3)).run prog W= .ok (.agg #[.int .i64 t3,.bool u3]) W:=by kernel_rfl
theorem Wy(W:AI)(e:abW)(v:IS):Sl (W.alloc (.cells #[v] e)) (some ⟨W.heap.size,0,none⟩) [v]:=by
 intro j u hu;cases j with
 | zero=>
  simp at hu;subst hu;have hb:=Bk.new W e #[v];exact⟨W.heap.size,0,rfl,hb.lt,by simpa using hb.cell 0⟩
 | succ j=>simp at hu
theorem Nf(g:Nat)(s:St)(w:AI)(hb:Bk w g 195 s.cells):
  aag prog 62 #[.pointer (some ⟨g,0,none⟩)] w (KW (Oa s.live) w):=by
 have HS:=sh (show KV w s 0 (.slice none 0 0) w from ⟨by omega,World.ownsRow_nil _ _ _ _,IN _ _⟩);have F2:Bk w g 195 (aH (s.a.getD 0) s.a.isSome (s.b.getD 0) s.b.isSome (s.c.getD 0) s.c.isSome (s.d.getD 0) s.d.isSome):=hb;have HL:Hid (∀k,k<4->∃(t:Int) (u:Bool),(u=true/\s.liveK (k+1)=s.liveK k++[t]\/u=false/\s.liveK (k+1)=s.liveK k)/\∀W:AI,(Instr.index 193 (.agg (aH (s.a.getD 0) s.a.isSome (s.b.getD 0) s.b.isSome (s.c.getD 0) s.c.isSome (s.d.getD 0) s.d.isSome)) (.int .i64 (k:Int))).run prog W= .ok (.agg #[.int .i64 t,.bool u]) W):=by
  intro k hk;obtain⟨a,b,c,d⟩:=s;have:k=0\/k=1\/k=2\/k=3:=by omega
  rcases this with rfl|rfl|rfl|rfl
  ·exact⟨_,_,by cases a<;>simp[St.liveK],af4 _ _ _ _ _ _ _ _⟩
  ·exact⟨_,_,by cases b<;>simp[St.liveK],af5 _ _ _ _ _ _ _ _⟩
  ·exact⟨_,_,by cases c<;>simp[St.liveK],af6 _ _ _ _ _ _ _ _⟩
  ·exact⟨_,_,by cases d<;>simp[St.liveK],af7 _ _ _ _ _ _ _ _⟩
 generalize s.a.getD 0=t0 at *;generalize s.a.isSome=b0 at *;generalize s.b.getD 0=t1 at *;generalize s.b.isSome=b1 at *;generalize s.c.getD 0=t2 at *;generalize s.c.isSome=b2 at *;generalize s.d.getD 0=t3 at *;generalize s.d.isSome=b3 at *;obtain⟨c0,c1,c2,c3,c4,c5,c6,c7⟩:=F2.eight;have HG:=sh F2.lt;clear hb F2;go_enter func62,ntmps62
 go_wp2_with fail
 clear c0 c1 c2 c3 c4 c5 c6 c7;go_loopw [3,12] (fun v i wr=>∃k:Nat,i= .int .i64 k/\KV w s k v wr) (fun _ i _=>4-(intOf i).toNat)
 case atStart=>exact⟨0,rfl,HS.out⟩
 case round=>
  clear HS;obtain⟨k,rfl,hk,au,gH⟩:=hrel;have gT:=s.Bz k;by_cases h4:k<4
  ·obtain⟨t,u,hu,Vs⟩:=HL.out k h4
   have FB:=sh gH;have QV:=gH.size;rcases hu with⟨rfl,SY⟩|⟨rfl,SY⟩
   ·have HLK:=sh SY
    have eJ:=sh ((au.alloc (.cells #[.int .i64 t,.bool true] 192)).alloc (.cells #[.int .i64 t] 3));obtain⟨i0,hi,Eo,qq,Bl⟩:=info_parts IX;clear SY gH au;have Ka:=sh (show Sl ((wr.alloc (.cells #[.int .i64 t,.bool true] 192)).alloc (.cells #[.int .i64 t] 3)) (some ⟨wr.heap.size+1,0,none⟩) [.int .i64 t]by
     have:=Wy (wr.alloc (.cells #[.int .i64 t,.bool true] 192)) 3 (.int .i64 t);simpa using this)
    go_wp2_with (at_builtin;refine cJ _ rfl (.tmp 17) (.tmp 20) 51 rfl w.heap.size 3 i0 (.int .i64 0) 8 underlying51 hi Eo qq Bl rfl u3 _ _ rfl eJ.out (some ⟨wr.heap.size+1,0,none⟩) 1 1 [.int .i64 t] rfl rfl Ka.out (by simp[Value.oneCell']) (by unfold maxLen;omega) (by omega) (by simp;omega) ?_;intro v5 w5 lQ lM ym)
    have dO:No w.heap.size w w5:=((FB.out.alloc QV _).alloc (by simp;omega) _).grown lM (by simp;omega) (fun k hk=>((eJ.out).lt k hk).1);go_roundw
    case rel=>exact⟨k+1,by go_num,by omega,by rw[HLK.out];simpa using lQ,dO⟩
    case measure=>simp[intOf];omega
   ·have HLK:=sh SY
    have eJ:=sh (au.alloc (.cells #[.int .i64 t,.bool false] 192));clear SY gH au;go_wp2_with fail
    go_roundw
    case rel=>exact⟨k+1,by go_num,by omega,by rw[HLK.out];exact eJ.out,FB.out.alloc QV _⟩
    case measure=>simp[intOf];omega
  ·obtain rfl:k=4:=by omega
   have HSO:=sh (N9 w.heap.size u3 (s.liveK 4) wr au (by omega));have FB:=sh gH;have eJ:=sh au;rw[show ((4:Nat):Int)=4 from rfl];clear au gH HL hk h4;go_wp2_with fail
   refine HSO.out.mono ?_;rintro e w6 ⟨rfl,dP,Vq⟩;have gS:No w.heap.size w w6:=FB.out.grown Vq FB.out.size (fun k hk=>(eJ.out.lt k hk).1);go_wp2_with fail
   go_ret
   exact⟨_,rfl,by rw[yT];exact dP,gS⟩
def Le (n:Int) (w:AI) (e:aci) (w':AI):Prop:=e= .returned (.int .i64 n)/\No w.heap.size w w'
theorem xA{n m:Int}{w w':AI}(h:n=m)(hb:No w.heap.size w w'):Le n w (.returned (.int .i64 m)) w':=by subst h;exact⟨rfl,hb⟩
def oldestOf (l:List Int) (now:Int):Int:=match l with|[]=>now|x::_=>min now x
def St.dh (s:St) (now:Int):Int:=oldestOf (Oa s.live) now
theorem EJ(g:Nat)(now:Int)(s:St)(w:AI)(hb:Bk w g 195 s.cells):
  aag prog 170 #[.pointer (some ⟨g,0,none⟩),.int .i64 now] w (Le (s.dh now) w):=by
 have HL:=Nf g s w hb;have HE:=sh (show s.dh now=oldestOf (Oa s.live) now from rfl);have CW:(Oa s.live).length<=4:=by rw[yT];exact s.Bz 4
 generalize Oa s.live=zs at *;have Dd:=sh HL;clear HL hb;go_enter func170,ntmps170
 go_wp2_with fail
 refine Dd.out.mono ?_;rintro e w1 ⟨v,rfl,au,ar⟩;obtain⟨A,c,rfl,rW,CR,hn,fF,_⟩:=cT au;have bh:=sh ar;clear au ar hn;cases zs with
 | nil=>
  clear fF;go_wp2_with fail
  go_ret
  exact xA (by rw[HE.out];rfl) bh.out
 | cons x l=>
  obtain⟨b,o,rfl,aI,fU⟩:=fF 0 (.int .i64 x) rfl;simp only[Nat.add_zero]at fU;have Xp:l.length<=3:=by simpa using CW
  rw[show ((x::l).length)=l.length+1 from rfl];rw[show ((x::l).length)=l.length+1 from rfl]at rW;have HE2:=sh (show s.dh now=min now x from HE.out);generalize l.length=m at *;clear fF CW HE;go_wp2_with fail
  go_ret
  exact xA HE2.out bh.out
end Go.Proofs.YtjbcbnemdhbhbaaGreatDoor
namespace Go.Proofs.YtjbcbnemdhbhbaaGreatDoor
open Go.Proofs.Tryz
open Go.RowKit
open Go.PlainAid
def jq (g q:Nat) (S T:List Nat) (D':DevS) (P':eR) (r:Int) (w:AI) (e:aci) (w':AI):Prop:=
 e= .returned (.int .i64 r)/\∃S' T',Dev w' g S' D'/\Pg w' q T' g P'/\(∀b∈T',b∉S')/\ah (S++T) w w'/\aj w S S'/\aj w T T'
theorem ah.left{S T:List Nat}{w w':AI}(h:ah S w w'):ah (S++T) w w':=h.mono (fun x hx=> .inl (AT.2 (.inl hx)))
theorem iW{w:AI}{S S' T:List Nat}(h:∀b∈T,b∉S)(hf:aj w S S')(hT:∀b∈T,b<w.heap.size):∀b∈T,b∉S':=fun b hb hs=>by
 rcases hf b hs with h1|h1
 ·exact h b hb h1
 ·have:=hT b hb;omega
theorem N1{w w0 w2 w3:AI}{g q:Nat}{S S' T:List Nat}{D':DevS}{P:eR}{m:aL}(hp:Pg w q T g P)(jr:∀b∈T,b∉S)(hs:P.bC=none)(hS:∀b∈S,b<w.heap.size)
  (h02:No w.heap.size w w2) (aU:Bk w2 w.heap.size 40 m.cells) (hd:Dev w3 g S' D') (ho:ah S w2 w3) (hf:aj w2 S S'):
  ∃S' T',Dev (w3.setCell ⟨q,12,none⟩ (.pointer (some ⟨w.heap.size,0,none⟩))) g S' D'/\Pg (w3.setCell ⟨q,12,none⟩ (.pointer (some ⟨w.heap.size,0,none⟩))) q T' g { P with bC:=some m }/\(∀b∈T',b∉S')/\
   ah (S++T) w (w3.setCell ⟨q,12,none⟩ (.pointer (some ⟨w.heap.size,0,none⟩)))/\aj w S S'/\aj w T T':=by
 have hT:=hp.old;obtain⟨sl,lg,h⟩:=hp;have hf':aj w S S':=fun b hb=>(hf b hb).imp_right (abE h02.size);have L0:=iW jr hf' hT;have hqS:q∉S:=jr q h.zm.1;have Tc:w.heap.size∉S:=fun hx=>by have:=hS _ hx;omega
 have afy:w.heap.size∉S':=fun hx=>by
  rcases hf _ hx with h1|h1
  ·exact Tc h1
  ·have:=aU.lt;omega
 have hO:ah S w w3:=(ah.ae h02 S).trans ho;have h3:Hb w3 q T g P sl lg:=h.off hO jr;have OS:ah [q] w3 (w3.setCell ⟨q,12,none⟩ (.pointer (some ⟨w.heap.size,0,none⟩))):=(ah.refl [q] w3).setCell (.inl (by simp)) _;have alO:=h.cells.lt;refine⟨S',w.heap.size::T,hd.off OS (fun b hb hq=>by simp at hq;subst hq;exact L0 _ h.zm.1 hb),⟨.pointer (some ⟨w.heap.size,0,none⟩),lg,?_⟩,?_,?_,hf',?_⟩
 ·refine⟨h3.cells.put 12 _,⟨w.heap.size,by simp,rfl,OS.bk (ho.bk aU Tc) (by simp;omega)⟩,OS.own h3.log (fun b hb=> ?_),⟨ace _ h.zm.1,fun b hb=>ace _ (h.zm.2 b hb)⟩,?_⟩
  ·have bL:=bP h3.log h3.cells (by decide)
   rw[hb]at bL;simp;exact fun e=>bL (by rw[e])
  ·intro b hb
   have cZ:w.heap.size<(w3.setCell ⟨q,12,none⟩ (.pointer (some ⟨w.heap.size,0,none⟩))).heap.size:=by
    have:=aU.lt;have:=ho.size;have:=OS.size;omega
   rcases IT.1 hb with rfl|hb
   ·exact cZ
   ·have:=hT b hb;omega
 ·intro b hb
  rcases IT.1 hb with rfl|hb
  ·exact afy
  ·exact L0 b hb
 ·exact(hO.left).then OS (fun x hx=> .inl (by simp at hx;subst hx;exact AT.2 (.inr h.zm.1)))
 ·intro b hb
  rcases IT.1 hb with rfl|hb
  ·exact .inr (AS _)
  ·exact .inl hb
theorem N0{g q:Nat}{S T:List Nat}{D D':DevS}{P:eR}{w:AI}(hd:Dev w g S D)(hp:Pg w q T g P)(jr:∀b∈T,b∉S)(hr:aO w)(hrS:0∉S)(vx:P.bC=none)
  (m:aL) (hm:m.ok=true) (hl:m.l=P.m.l) (ht:m.t=P.m.t+1) (V8:0<=P.m.t) (hb:D.steps<=1000000000) (r:Int) (hw:D.write (m.t%2) m.bytes=(D',r)):
  aag prog 53 #[.pointer (some ⟨q,0,none⟩),.agg m.cells] w (jq g q S T D' (if r=0 then { P with bC:=some m } else P) r w):=by
 have HD:=sh hd;have HP:=sh hp;have xL:=sh jr;have HR:=sh hr;have HRS:=sh hrS;have Up:=sh vx;have HB:=sh hb;have ON:Hid (m.bytes.size<=maxLen):=show _<=_ by rw[aL.size hm];decide
 have HW:=sh hw;have htm:m.t<=1099511627776:=(kA hm).2.1;have Dj:Hid (∀W,aO W->aag prog 117 #[.agg m.cells] W (fun e w'=>e= .returned (.tuple #[.string m.bytes,.int .i64 0])/\No W.heap.size W w')):=fun W hW=>by
  have h:=qw m.t m.r m.f m.p m.l W hW;have he:kN m.t m.r m.f m.p m.l=0:=je hm;unfold pS at h;rw[he]at h;exact h
 have HM:Hid (m=m):=rfl;obtain⟨sl,lg,kY⟩:=hp;have fF:sl= .pointer none:=by have:=kY.sld;rw[vx]at this;exact this
 subst fF;have va:=sh kY;have xQ:Hid (∀W,ah S w W->W.cell? ⟨q,0,none⟩=some (ptr g)/\W.cell? ⟨q,1,none⟩=some (.int .i64 P.m.t)/\W.cell? ⟨q,5,none⟩=some (.int .i64 P.m.l)/\W.cell? ⟨q,12,none⟩=some (.pointer none)/\W.frozen? ⟨q,12,none⟩=false/\q<W.heap.size):=fun W hW=>by
  have hk:=hW.bk va.out.cells (xL.out q va.out.zm.1);obtain⟨c0,c1,c2,c3,c4,c5,c6,c7,c8,c9,Ho,CN,rQ,wh⟩:=hk.jM;exact⟨c0,c1,c5,rQ,hk.frozen 12,hk.lt⟩
 have jH:Hid (Bk (w.alloc (.cells m.cells 40)) w.heap.size 40 m.cells):=Bk.new _ _ _;have kR:Hid (No w.heap.size w (w.alloc (.cells m.cells 40))):=(IN _ w).alloc (AS _) _;have bV:Hid (∀w2 w3 S',No w.heap.size w w2->Bk w2 w.heap.size 40 m.cells->Dev w3 g S' D'->ah S w2 w3->aj w2 S S'->_):=fun w2 w3 S' a1 a2 a3 a4 a5=>N1 (w0:=w) HP.out xL.out Up.out HD.out.old a1 a2 a3 a4 a5;have WM:Hid (∀W,Bk W w.heap.size 40 m.cells->W.cell? ⟨w.heap.size,0,none⟩=some (.int .i64 m.t)/\W.cell? ⟨w.heap.size,1,none⟩=some (.int .i64 m.r)/\W.cell? ⟨w.heap.size,2,none⟩=some (.int .i64 m.f)/\W.cell? ⟨w.heap.size,3,none⟩=some (.int .i64 m.p)/\W.cell? ⟨w.heap.size,4,none⟩=some (.int .i64 m.l)):=fun W h=>h.oH;obtain⟨mt,mr,mf,mp,ml⟩:=m;unfold aL.cells at *;simp only at *;generalize aL.bytes ⟨mt,mr,mf,mp,ml⟩=mb at *;have q1:IntKind.i64.wrap (mt-1)=P.m.t:=by rw[show mt-1=P.m.t by omega];exact acu _ (by omega)
 have q2:mt-1=P.m.t:=by omega
 obtain⟨par,aaV⟩:∃par,par=mt%2:=⟨_,rfl⟩;have q3:mt%2=par:=aaV.symm;have q4:mt.tmod 2=par:=by rw[Int.tmod_eq_emod_of_nonneg (by omega)];exact q3
 have q5:IntKind.i64.wrap par=par:=acu _ (by omega);rw[q3]at HW;have CW:ml=P.m.l:=hl;have HWP:Hid (D.write par mb=(D',r)):=HW;subst CW;have Xv:IntKind.i64.wrap P.m.t=P.m.t:=acu _ (by omega);clear hd jr hr hrS vx hm hl ht hb hw kY HW aaV HM Up;by_cases gr:r=0
 ·subst gr
  rw[if_pos rfl];go_enter func53,ntmps53
  obtain⟨b0,b1,b2,b3,b4⟩:=WM.out _ jH.out;go_wp2_with fail
  (go_at_call 117)
  refine(Dj.out _ (HR.out.below kR.out)).mono ?_;rintro e w2 ⟨rfl,az⟩;have bz:=sh (kR.out.trans (az.mono kR.out.size));have Sp:=sh (af jH.out az);have uK:=sh (HD.out.below bz.out);clear az b0 b1 b2 b3 b4;obtain⟨b0,b1,b2,b3,b4⟩:=WM.out _ Sp.out;obtain⟨c0,c1,c5,rQ,f12,hql⟩:=xQ.out _ (ah.ae bz.out S);go_wp2_with fail
  go_quiet (fail)
  go_wp2_with fail
  go_quiet (fail)
  go_wp2_with fail
  have bH:Hid (∀W,ah S w2 W->W.cell? ⟨q,0,none⟩=some (ptr g)/\W.cell? ⟨w.heap.size,0,none⟩=some (.int .i64 mt)):=fun W hW=>⟨(xQ.out _ ((ah.ae bz.out S).trans hW)).1,(WM.out _ (hW.bk Sp.out (fun hx=>by have:=HD.out.old _ hx;omega))).1⟩;clear c0 c1 c5 rQ f12 b0 b1 b2 b3 b4;go_region_held3 (fun W=>W.cell? ⟨q,0,none⟩=some (ptr g)/\W.cell? ⟨w.heap.size,0,none⟩=some (.int .i64 mt))
   (first|exact bH.out _ ((ah.refl S w2).drewN _)|exact bH.out _ ((((ah.refl S w2).drewN _).drewN _).drew)|exact bH.out _ (by assumption))
   ((go_at_call 118;refine(fe (uK.out.drewN _) par mb D' _ HB.out ON.out HWP.out).mono ?_;rintro e w3 ⟨rfl,Tk⟩;obtain⟨S3,SG,Gc,F7⟩:=Tk;have Xu:=((ah.refl S w2).drewN _).trans Gc))
  all_goals
   have Se:=sh SG;have jZ:=sh Xu;have Pk:Hid (aj w2 S S3):=fun b hb=>F7 b hb;obtain⟨c0,c1,c5,rQ,f12,hql⟩:=xQ.out _ ((ah.ae bz.out S).trans Xu);clear SG Xu F7 Gc c0 c1 c5;go_wp2_with fail
   go_ret
   exact⟨rfl,bV.out w2 w3 S3 bz.out Sp.out Se.out jZ.out Pk.out⟩
 ·rw[if_neg gr]
  have qr:(r != 0)=true:=by simpa using gr
  clear gr;go_enter func53,ntmps53
  obtain⟨b0,b1,b2,b3,b4⟩:=WM.out _ jH.out;go_wp2_with fail
  (go_at_call 117)
  refine(Dj.out _ (HR.out.below kR.out)).mono ?_;rintro e w2 ⟨rfl,az⟩;have bz:=sh (kR.out.trans (az.mono kR.out.size));have Sp:=sh (af jH.out az);have uK:=sh (HD.out.below bz.out);clear az b0 b1 b2 b3 b4;obtain⟨b0,b1,b2,b3,b4⟩:=WM.out _ Sp.out;obtain⟨c0,c1,c5,rQ,f12,hql⟩:=xQ.out _ (ah.ae bz.out S);go_wp2_with fail
  go_quiet (fail)
  go_wp2_with fail
  go_quiet (fail)
  go_wp2_with fail
  have bH:Hid (∀W,ah S w2 W->W.cell? ⟨q,0,none⟩=some (ptr g)/\W.cell? ⟨w.heap.size,0,none⟩=some (.int .i64 mt)):=fun W hW=>⟨(xQ.out _ ((ah.ae bz.out S).trans hW)).1,(WM.out _ (hW.bk Sp.out (fun hx=>by have:=HD.out.old _ hx;omega))).1⟩;clear c0 c1 c5 rQ f12 b0 b1 b2 b3 b4;go_region_held3 (fun W=>W.cell? ⟨q,0,none⟩=some (ptr g)/\W.cell? ⟨w.heap.size,0,none⟩=some (.int .i64 mt))
   (first|exact bH.out _ ((ah.refl S w2).drewN _)|exact bH.out _ ((((ah.refl S w2).drewN _).drewN _).drew)|exact bH.out _ (by assumption))
   ((go_at_call 118;refine(fe (uK.out.drewN _) par mb D' _ HB.out ON.out HWP.out).mono ?_;rintro e w3 ⟨rfl,Tk⟩;obtain⟨S3,SG,Gc,F7⟩:=Tk;have Xu:=((ah.refl S w2).drewN _).trans Gc))
  all_goals
   have Se:=sh SG;have jZ:=sh Xu;have Pk:Hid (aj w2 S S3):=fun b hb=>F7 b hb;clear SG Xu F7 Gc;go_wp2_with fail
   go_ret
   refine⟨rfl,S3,T,Se.out,HP.out.off ((ah.ae bz.out S).trans jZ.out) xL.out,iW xL.out (fun b hb=>(Pk.out b hb).imp_right (abE bz.out.size)) HP.out.old,((ah.ae bz.out S).trans jZ.out).left,fun b hb=>(Pk.out b hb).imp_right (abE bz.out.size),aj.refl _ _⟩
theorem yX(c0 c1 c2 c3 c4 c5 c6 c7 c8 c9 Ho CN rQ wh nt nr nf np nl vb mt mr mf mp ml vs:IS):
  ((((((((((((#[c0,c1,c2,c3,c4,c5,c6,c7,c8,c9,Ho,CN,rQ,wh].setIfInBounds 6 nt).setIfInBounds 7 nr).setIfInBounds 8 nf).setIfInBounds 9 np).setIfInBounds 10 nl).setIfInBounds 11 vb).setIfInBounds 1 mt).setIfInBounds 2 mr).setIfInBounds 3 mf).setIfInBounds 4 mp).setIfInBounds 5 ml).setIfInBounds 12 vs)= #[c0,mt,mr,mf,mp,ml,nt,nr,nf,np,nl,vb,vs,wh]:=by simp only[List.setIfInBounds_toArray,List.set_cons_succ,List.set_cons_zero]
theorem Cw{w2:AI}{q:Nat}{t:abW}{c0 c1 c2 c3 c4 c5 c6 c7 c8 c9 Ho CN rQ wh:IS}(h:Bk w2 q t #[c0,c1,c2,c3,c4,c5,c6,c7,c8,c9,Ho,CN,rQ,wh])(nt nr nf np nl vb mt mr mf mp ml vs:IS):
  Bk ((((((((((((w2.setCell ⟨q,6,none⟩ nt).setCell ⟨q,7,none⟩ nr).setCell ⟨q,8,none⟩ nf).setCell ⟨q,9,none⟩ np).setCell ⟨q,10,none⟩ nl).setCell ⟨q,11,none⟩ vb).setCell ⟨q,1,none⟩ mt).setCell ⟨q,2,none⟩ mr).setCell ⟨q,3,none⟩ mf).setCell ⟨q,4,none⟩ mp).setCell ⟨q,5,none⟩ ml).setCell ⟨q,12,none⟩ vs) q t #[c0,mt,mr,mf,mp,ml,nt,nr,nf,np,nl,vb,vs,wh]:=by
 have h1:=((((((((((((h.put 6 nt).put 7 nr).put 8 nf).put 9 np).put 10 nl).put 11 vb).put 1 mt).put 2 mr).put 3 mf).put 4 mp).put 5 ml).put 12 vs);rw[yX]at h1;exact h1
theorem Fl(w2:AI)(q:Nat)(nt nr nf np nl vb mt mr mf mp ml vs:IS):ah [q] w2 ((((((((((((w2.setCell ⟨q,6,none⟩ nt).setCell ⟨q,7,none⟩ nr).setCell ⟨q,8,none⟩ nf).setCell ⟨q,9,none⟩ np).setCell ⟨q,10,none⟩ nl).setCell ⟨q,11,none⟩ vb).setCell ⟨q,1,none⟩ mt).setCell ⟨q,2,none⟩ mr).setCell ⟨q,3,none⟩ mf).setCell ⟨q,4,none⟩ mp).setCell ⟨q,5,none⟩ ml).setCell ⟨q,12,none⟩ vs):=
 (((((((((((((ah.refl [q] w2).setCell (p:=⟨q,6,none⟩) (.inl acs) nt).setCell (p:=⟨q,7,none⟩) (.inl acs) nr).setCell (p:=⟨q,8,none⟩) (.inl acs) nf).setCell (p:=⟨q,9,none⟩) (.inl acs) np).setCell (p:=⟨q,10,none⟩) (.inl acs) nl).setCell (p:=⟨q,11,none⟩) (.inl acs) vb).setCell (p:=⟨q,1,none⟩) (.inl acs) mt).setCell (p:=⟨q,2,none⟩) (.inl acs) mr).setCell (p:=⟨q,3,none⟩) (.inl acs) mf).setCell (p:=⟨q,4,none⟩) (.inl acs) mp).setCell (p:=⟨q,5,none⟩) (.inl acs) ml).setCell (p:=⟨q,12,none⟩) (.inl acs) vs)
theorem LH{g q:Nat}{S T:List Nat}{D D':DevS}{P:eR}{w:AI}(hd:Dev w g S D)(hp:Pg w q T g P)(jr:∀b∈T,b∉S)(m:aL)(vx:P.bC=some m)(hb:D.steps<=1000000000)(r:Int)(hw:D.sync=(D',r)):
  aag prog 119 #[.pointer (some ⟨q,0,none⟩)] w (jq g q S T D' (if r=0 then ⟨m,P.m,true,none,P.log⟩else P) r w):=by
 have HD:=sh hd;have HP:=sh hp;have xL:=sh jr;have HB:=sh hb;have HW:=sh hw;obtain⟨sl,lg,kY⟩:=hp;have fF:=kY.sld;rw[vx]at fF;obtain⟨b,hbT,fF,aU⟩:=fF;subst fF;have va:=sh kY;have qL:=sh aU;have zg:b≠q:=Bk.ne aU kY.cells (by decide);have HBT:=sh hbT;have xQ:Hid (∀W,ah S w W->Bk W q 188 (gv g P.m P.o P.both (.pointer (some ⟨b,0,none⟩)) lg)/\Bk W b 40 m.cells):=fun W hW=>⟨hW.bk va.out.cells (xL.out q va.out.zm.1),hW.bk qL.out (xL.out b HBT.out)⟩;obtain⟨P1,P2,P3,P4,P5⟩:=P;obtain⟨mt,mr,mf,mp,ml⟩:=m;obtain⟨nt,nr,nf,np,nl⟩:=P1;obtain⟨ot,or,of,op,ol⟩:=P2;simp only at *;obtain⟨c0,c1,c2,c3,c4,c5,c6,c7,c8,c9,Ho,CN,rQ,wh⟩:=(xQ.out _ (ah.refl S w)).1.jM;clear hd jr vx hb hw kY aU hbT;by_cases gr:r=0
 ·subst gr
  rw[if_pos rfl];go_enter func119,ntmps119
  go_wp2_with fail
  (go_at_call 116)
  refine(nD HD.out D' 0 HB.out HW.out).mono ?_;rintro e w2 ⟨rfl,qY⟩;obtain⟨S2,mE,kU,Qv⟩:=qY;have j9:=sh mE;have gW:=sh kU;have uL:=sh Qv;clear mE kU Qv c0 c1 c2 c3 c4 c5 c6 c7 c8 c9 Ho CN rQ wh;have ze:=sh (xQ.out _ gW.out).1;have bz:=sh (xQ.out _ gW.out).2;obtain⟨c0,c1,c2,c3,c4,c5,c6,c7,c8,c9,Ho,CN,rQ,wh⟩:=ze.out.jM;obtain⟨d0,d1,d2,d3,d4⟩:=bz.out.oH;have f1:=ze.out.frozen 1;have f2:=ze.out.frozen 2;have f3:=ze.out.frozen 3;have f4:=ze.out.frozen 4;have f5:=ze.out.frozen 5;have f6:=ze.out.frozen 6;have f7:=ze.out.frozen 7;have f8:=ze.out.frozen 8;have f9:=ze.out.frozen 9;have f10:=ze.out.frozen 10;have f11:=ze.out.frozen 11;have f12:=ze.out.frozen 12;go_wp2_with fail
  go_ret
  have mU:=Cw ze.out (.int .i64 nt) (.int .i64 nr) (.int .i64 nf) (.int .i64 np) (.int .i64 nl) (.bool true) (.int .i64 mt) (.int .i64 mr) (.int .i64 mf) (.int .i64 mp) (.int .i64 ml) (.pointer none);have bS:=Fl w2 q (.int .i64 nt) (.int .i64 nr) (.int .i64 nf) (.int .i64 np) (.int .i64 nl) (.bool true) (.int .i64 mt) (.int .i64 mr) (.int .i64 mf) (.int .i64 mp) (.int .i64 ml) (.pointer none);have hT:=HP.out.old;have L0:=iW xL.out uL.out hT;have hqT:=va.out.zm.1;refine⟨rfl,S2,T,j9.out.off bS (fun x hx hq=>by simp at hq;subst hq;exact L0 _ hqT hx),⟨.pointer none,lg,mU,rfl,bS.own (gW.out.own va.out.log (fun x hx=>xL.out _ (va.out.zm.2 x hx))) (fun x hx=> ?_),va.out.zm,fun x hx=> ?_⟩,L0,?_,uL.out,aj.refl _ _⟩
  ·have bL:=bP va.out.log va.out.cells (by decide)
   rw[hx]at bL;simp;exact fun e=>bL (by rw[e])
  ·have h1:=hT x hx
   have h2:=gW.out.size;have h3:=bS.size;omega
  ·exact gW.out.left.then bS (fun x hx=> .inl (by simp at hx;subst hx;exact AT.2 (.inr hqT)))
 ·rw[if_neg gr]
  have qr:(r != 0)=true:=by simpa using gr
  clear gr;go_enter func119,ntmps119
  go_wp2_with fail
  (go_at_call 116)
  refine(nD HD.out D' r HB.out HW.out).mono ?_;rintro e w2 ⟨rfl,qY⟩;obtain⟨S2,mE,kU,Qv⟩:=qY;have j9:=sh mE;have gW:=sh kU;have uL:=sh Qv;clear mE kU Qv;go_wp2_with fail
  go_ret
  exact⟨rfl,S2,T,j9.out,HP.out.off gW.out xL.out,iW xL.out uL.out HP.out.old,gW.out.left,uL.out,aj.refl _ _⟩
end Go.Proofs.YtjbcbnemdhbhbaaGreatDoor
