import Derived.Test.YtjbcbnemdhbhbaaGreatDoorA15
import Derived.Test.YtjbcbnemdhbhbaaGreatDoorA6
import Derived.Test.YtjbcbnemdhbhbaaGreatDoorA22
import Derived.Test.YtjbcbnemdhbhbaaGreatDoorA19
import Derived.Test.YtjbcbnemdhbhbaaGreatDoorA2
import Derived.Test.YtjbcbnemdhbhbaaGreatDoorA10
import Derived.Test.YtjbcbnemdhbhbaaGreatDoorA9
import Derived.LoopN
import Derived.Test.YtjbcbnemdhbhbaaGreatDoorA14
import Derived.Test.YtjbcbnemdhbhbaaGreatDoorA21
import Derived.Test.YtjbcbnemdhbhbaaGreatDoorA3
set_option maxRecDepth 100000
set_option linter.unusedVariables false
set_option linter.unusedSimpArgs false
set_option maxHeartbeats 40000000
open Go renaming Calls→aaf,Value→No,World→AI,bodyPost_ret→abT,rounds_succ→abF
open Go.Instr renaming lookup→acR
open Go.Lib renaming hid→sh
open Go.RowKit renaming Below→IT
open Go.RowKit.Below renaming refl→BY
open Go.Value renaming ownBlock→aaT
open Go.World.ownsRow renaming lt→abq
open List renaming append_assoc→aaa,length_append→AT,length_nil→acW,length_singleton→adl,mem_append→By,mem_cons→OF,mem_singleton→IN
open Nat renaming le_refl→AS,le_trans→abw,lt_of_lt_of_le→aal,zero_add→abR,zero_le→abi
open Option renaming mem_toList→abG,none→afA
namespace Go.Proofs.YtjbcbnemdhbhbaaGreatDoor
open Go.Proofs.Tryz
open Go.RowKit
def tj (l:List (Nat×Nat)) (w:AI) (e:Ending) (w':AI):Prop:=IT w.heap.size w w'/\∃(A:Option Addr) (c:Nat),e= .returned (.slice A l.length c)/\fC w' w.heap.size (.slice A l.length c) l
theorem Iy(W:AI):(binOp .eql 49 (.slice none 0 0) (.slice none 0 0)).run prog W= .ok (.bool true) W:=run_eql_nil_slice W 49 62 none 0 0 0 0 underlying49
theorem fC.nil(w:AI)(B:Nat):fC w B (.slice none 0 0) []:=World.ownsRow_nil _ _ _ _
theorem tV{w:AI}{A:Option Addr}{c:Nat}{l:List (Nat×Nat)}(h:gi w A l)(h1:l.length<=c)(h2:c<=maxLen)(hl:l.length<=10000)(xG:A=none->c=0):aaf prog 102 #[.slice A l.length c] w (tj l w):=by
 obtain⟨i0,hi,ez,dP,eh⟩:=info_parts mO;have cI:c<=9223372036854775807:=by unfold maxLen at h2;omega
 cases A with
 | none=>
  have Pn:l=[]:=by
   cases l with
   | nil=>rfl
   | cons x t=>obtain⟨b,o,hA,-⟩:=h.at 0 (by simp);cases hA
  subst Pn;obtain rfl:=xG rfl;have heq:∀W:AI,(binOp .eql 49 (.slice none 0 0) (.slice none 0 0)).run prog W= .ok (.bool true) W:=fun W=>Iy W;go_enter func102,ntmps102
  go_wp2_with fail
  go_ret
  exact⟨BY _ _,none,0,rfl,fC.nil _ _⟩
 | some ad=>
  have Ev:∀W,Sem.run prog (binOp BinOp.eql 49 (.slice (some ad) l.length c) (.slice none 0 0)) W= .ok (.bool false) W:=fun W=>by kernel_rfl
  have tA:=sh (show (w.alloc (.cells #[] 62)).ownsRow w.heap.size 62 2 (.slice (some ⟨w.heap.size,0,none⟩) 0 0) 0 [] from World.ownsRow_lit w #[] 0 (AS _) (abi _) rfl);have KQ:=sh (show ∀a,some ad=some a->∀(j:Nat) (u:No),(aI l)[j]? =some u->(w.alloc (.cells #[] 62)).cell? (a.add j)=some u from fun a ha j u hu=>by
   obtain⟨b,o,hA,hb,hc⟩:=h j u hu;rw[ha]at hA;injection hA with hA;subst hA;rw[bJ];exact(((BY w.heap.size w).alloc (AS _) _).cell (p:=⟨b,o+j,none⟩) hb).trans hc)
  obtain⟨n,hn⟩:∃n,n=l.length:=⟨_,rfl⟩;have HN:=sh hn;rw[<-hn]at h1 hl Ev |-;clear h hn;go_enter func102,ntmps102
  go_wp2_with (at_builtin;refine bq _ rfl (.tmp 5) (.tmp 6) 49 rfl w.heap.size 62 i0 _ 2 16 underlying49 hi ez dP eh rfl (by omega) (.slice (some ⟨w.heap.size,0,none⟩) 0 0) 0 [] rfl tA.out (some ad) n c (aI l) rfl (by rw[HN.out];exact cE l) (fun hh=>by cases hh) KQ.out (mH l) (by unfold maxLen;omega) (by omega) (by simp) ?_;intro A3 c3 w3 ax aQ)
  have im:=sh (show fC w3 w.heap.size (.slice A3 n c3) l by
   unfold fC;rw[abR,List.nil_append]at ax;rw[<-HN.out];exact ax)
  have iR:=sh (((ah.af ((BY _ w).alloc (AS _) (.cells #[] 62)) []).grown aQ (fun g hg=> .inr (tA.out.lt g hg).1)).below (AS _) (by simp));clear ax aQ;have hz:(0:Nat)+n=n:=abR n;go_wp2_with fail
  go_ret
  exact⟨iR.out,A3,c3,by rw[<-HN.out];exact congrArg (fun k=>Ending.returned (.slice A3 k c3)) (by omega),by rw[<-HN.out];exact im.out⟩
theorem AN{w:AI}{f:Nat}{S:List Nat}{l:List (Nat×Nat)}(h:FL w f S l)(hl:l.length<=10000):aaf prog 61 #[.pointer (some ⟨f,0,none⟩)] w (tj l w):=by
 obtain⟨⟨A,c,h1,h2,h3,h4,h5,h8⟩,h6,h7⟩:=h;have c0:=(h1.cell 0).trans (bu A c l);have lf:=h1.lt;have HC:=sh (tV h2 h3 h4 hl h8);clear h1 h2 h5 h6 h7 h8 hl h3 h4;go_enter func61,ntmps61
 go_wp2_with fail
 refine HC.out.mono ?_;rintro e w1 ⟨hb,A3,c3,rfl,ho⟩;have HB:=sh hb;have HO:=sh ho;clear hb ho;go_wp2_with fail
 go_ret
 exact⟨HB.out,A3,c3,rfl,HO.out⟩
def Qa (n:Nat) (w:AI) (e:Ending) (w':AI):Prop:=∃q:Bool,e= .returned (.tuple #[.int .i64 n,.bool q])/\IT w.heap.size w w'
theorem AY{w:AI}{A:Option Addr}{c:Nat}{l:List (Nat×Nat)}(h:gi w A l)(hs:Fr.Sorted l)(hl:l.length<=1000)(x:Nat×Nat):
  aaf prog 215 #[.slice A l.length c,.agg #[.int .i64 x.1,.int .i64 x.2],.func (.func 216) #[] #[]] w (Qa (Fr.spot l x) w):=by
 have HO:=sh fun(a b:Nat×Nat) (W:AI)=>ud a b W;have HP:=sh (Fr.ic l x);have yA:=sh (Fr.gu l x);have pL:=sh (fun i=>Fr.iN hs x i);have HF:=sh h;have HT:Hid (∀W,IT (w.heap.size+1) (w.alloc (.cells #[.int .i64 x.1,.int .i64 x.2] 62)) W->W.cell? ⟨w.heap.size,0,none⟩=some (.int .i64 x.1)/\W.cell? ⟨w.heap.size,1,none⟩=some (.int .i64 x.2)/\gi W A l):=fun W hW=>by
  have h1:=ae (Bk.new w 62 #[.int .i64 x.1,.int .i64 x.2]) (w':=W) (by simpa using hW);exact⟨h1.cell 0,h1.cell 1,(h.below ((BY _ w).alloc (AS _) _)).below (by simpa using hW)⟩
 obtain⟨n,hn⟩:∃n,n=l.length:=⟨_,rfl⟩;obtain⟨p,hp⟩:∃p,p=Fr.spot l x:=⟨_,rfl⟩;have HN:=sh hn;rw[<-hn]at hl HP |-;rw[<-hp]at HP yA pL |-;clear h hs hn hp;go_enter func215,ntmps215
 go_wp2_with fail
 go_loopw [9,10] (fun i j wr=>∃(a b:Nat),i= .int .i64 a/\j= .int .i64 b/\a<=p/\p<=b/\b<=n/\Hid (IT (w.heap.size+1) (w.alloc (.cells #[.int .i64 x.1,.int .i64 x.2] 62)) wr)) (fun i j _=>(intOf j).toNat-(intOf i).toNat)
 case atStart=>exact⟨0,n,rfl,rfl,abi _,HP.out,AS _,sh (BY _ _)⟩
 case round=>
  obtain⟨a,b,rfl,rfl,ha,hb,QI,HB⟩:=hrel;by_cases aH:a<b
  ·have mM:a<=(a+b)/2:=by omega
   have jf:(a+b)/2<b:=by omega
   have z1:decide ((a:Int)<(b:Int))=true:=decide_eq_true (by omega);have z2:decide (a<b)=true:=decide_eq_true aH;have om:(a+b)/2<n:=by omega
   have hi0:(0:Int)<=((a:Int)+(b:Int))/2:=by omega
   have Mp:((a:Int)+(b:Int))/2<(n:Int):=by omega
   have Xo:(((a:Int)+(b:Int))/2).toNat=(a+b)/2:=by omega
   obtain⟨bb,o,hA,lb,q0,q1⟩:=(HT.out wr HB.out).2.2.at ((a+b)/2) (by rw[<-HN.out];omega);obtain⟨y,hy⟩:∃y,y=l[(a+b)/2]'(by rw[<-HN.out];omega):=⟨_,rfl⟩;have HY:=sh hy;rw[<-hy]at q0 q1;have bD:=sh (show ∀W,IT wr.heap.size wr W->W.cell? ⟨w.heap.size,0,none⟩=some (.int .i64 x.1)/\W.cell? ⟨w.heap.size,1,none⟩=some (.int .i64 x.2)/\W.cell? ⟨bb,o+(a+b)/2*2,none⟩=some (.int .i64 y.1)/\W.cell? ⟨bb,o+(a+b)/2*2+1,none⟩=some (.int .i64 y.2) from fun W hW=>by
    have h1:=HT.out W (HB.out.trans (hW.mono (by have:=HB.out.size;simpa using this)));exact⟨h1.1,h1.2.1,(hW.cell (p:=⟨bb,o+(a+b)/2*2,none⟩) lb).trans q0,(hW.cell (p:=⟨bb,o+(a+b)/2*2+1,none⟩) lb).trans q1⟩)
   have ni:=Fr.LF y x;have zW:Fr.lt y x=true->(a+b)/2<p:=fun hq=>by
    by_cases hh:(a+b)/2<p
    ·exact hh
    ·have:=pL.out ((a+b)/2) (by omega) (by rw[<-HN.out];omega)
     rw[<-HY.out,hq]at this;cases this
   have kx:Fr.lt y x=false->p<=(a+b)/2:=fun hq=>by
    by_cases hh:(a+b)/2<p
    ·have:=yA.out ((a+b)/2) hh (by rw[<-HN.out];omega)
     rw[<-HY.out,hq]at this;cases this
    ·omega
   clear hy q0 q1;subst hA;cases hq:Fr.lt y x
   all_goals
    rw[hq]at ni;have alh:=ni.symm;have HU:=sh (show (Fr.lt y x=true->(a+b)/2<p)/\(Fr.lt y x=false->p<=(a+b)/2) from ⟨zW,kx⟩);have HQ:=sh hq;clear ni zW kx hq;go_wp2_with fail
    go_region_held3 (fun W=>W.cell? ⟨w.heap.size,0,none⟩=some (.int .i64 x.1)/\W.cell? ⟨w.heap.size,1,none⟩=some (.int .i64 x.2)/\W.cell? ⟨bb,o+(a+b)/2*2,none⟩=some (.int .i64 y.1)/\W.cell? ⟨bb,o+(a+b)/2*2+1,none⟩=some (.int .i64 y.2)) (first|(refine bD.out _ ?_;with_reducible (first|exact(BY _ _).drew|exact PJ.out))|fail) (first
    | (go_at_call 216;(with_reducible refine(HO.out _ _ _).mono ?_);rintro e w1 ⟨rfl,ar⟩;have PJ:=sh (show IT wr.heap.size wr w1 from (BY _ _).drew.trans ar);clear ar))
    all_goals
     go_wp2_with fail
     go_roundw
     case rel=>first
      | exact⟨(a+b)/2+1,b,by go_num,rfl,(by have:=HU.out.1 HQ.out;omega),hb,QI,sh (HB.out.trans (PJ.out.mono (by have:=HB.out.size;simpa using this)))⟩
      | exact⟨a,(a+b)/2,rfl,by go_num,ha,(by have:=HU.out.2 HQ.out;omega),by omega,sh (HB.out.trans (PJ.out.mono (by have:=HB.out.size;simpa using this)))⟩
     case measure=>simp[intOf];omega
  ·obtain rfl:a=p:=by omega
   have z1:decide ((a:Int)<(b:Int))=false:=decide_eq_false (by omega);have z2:decide (a<b)=false:=decide_eq_false aH;have U9:=HB.out.size;simp at U9;by_cases han:a<n
   ·have z3:decide ((a:Int)<(n:Int))=true:=decide_eq_true (by omega)
    have z4:decide (a<n)=true:=decide_eq_true han;obtain⟨bb,o,hA,lb,q0,q1⟩:=(HT.out wr HB.out).2.2.at a (by rw[<-HN.out];exact han);obtain⟨y,hy⟩:∃y,y=l[a]'(by rw[<-HN.out];exact han):=⟨_,rfl⟩;rw[<-hy]at q0 q1;have bD:=sh (show ∀W,IT wr.heap.size wr W->W.cell? ⟨w.heap.size,0,none⟩=some (.int .i64 x.1)/\W.cell? ⟨w.heap.size,1,none⟩=some (.int .i64 x.2)/\W.cell? ⟨bb,o+a*2,none⟩=some (.int .i64 y.1)/\W.cell? ⟨bb,o+a*2+1,none⟩=some (.int .i64 y.2) from fun W hW=>by
     have h1:=HT.out W (HB.out.trans (hW.mono (by have:=HB.out.size;simpa using this)));exact⟨h1.1,h1.2.1,(hW.cell (p:=⟨bb,o+a*2,none⟩) lb).trans q0,(hW.cell (p:=⟨bb,o+a*2+1,none⟩) lb).trans q1⟩)
    clear hy q0 q1;subst hA;go_wp2_with fail
    go_region_held3 (fun W=>W.cell? ⟨w.heap.size,0,none⟩=some (.int .i64 x.1)/\W.cell? ⟨w.heap.size,1,none⟩=some (.int .i64 x.2)/\W.cell? ⟨bb,o+a*2,none⟩=some (.int .i64 y.1)/\W.cell? ⟨bb,o+a*2+1,none⟩=some (.int .i64 y.2)) (first|(refine bD.out _ ?_;with_reducible (first|exact(BY _ _).drew|exact PJ.out))|fail) (first
     | (go_at_call 216;(with_reducible refine(HO.out _ _ _).mono ?_);rintro e w1 ⟨rfl,ar⟩;have PJ:=sh (show IT wr.heap.size wr w1 from (BY _ _).drew.trans ar);clear ar))
    all_goals
     go_wp2_with fail
     go_ret2
     exact⟨_,rfl,((BY _ w).alloc (AS _) _).trans ((HB.out.mono (by omega)).trans (PJ.out.mono (by omega)))⟩
   ·have z3:decide ((a:Int)<(n:Int))=false:=decide_eq_false (by omega)
    have z4:decide (a<n)=false:=decide_eq_false han;go_wp2_with fail
    go_quiet (fail)
    go_wp2_with fail
    go_ret2
    exact⟨_,rfl,below_drewN (((BY _ w).alloc (AS _) _).trans (HB.out.mono (by omega))) _⟩
end Go.Proofs.YtjbcbnemdhbhbaaGreatDoor
namespace Go.Proofs.YtjbcbnemdhbhbaaGreatDoor
open Go.Proofs.Tryz
open Go.RowKit
open Go.PlainAid
theorem J7{s:ByteArray}{k n t:Int}{b:ByteArray}(h:gS s k n t b)(w:AI)(hr:aS w):aaf prog 212 #[.string s] w (fun e w'=>e= .returned (.tuple #[.agg #[.int .i64 k,.int .i64 n,.int .i64 t,.string b],.int .i64 0])/\IT w.heap.size w w'):=by
 have h1:=FR s w hr;obtain⟨e1,e2,e3,e4,e5⟩:=ON h;unfold dI at h1;rw[e1,e2,e3,e4,e5]at h1;exact h1
theorem Bk.He{w:AI}{q:Nat}{t:TypeId}{v0 v1 v2 v3:No}(h:Bk w q t #[v0,v1,v2,v3])(a0 a1 a2 a3:No):
  (w.setCell ⟨q,0,none⟩ a0).cell? ⟨q,0,none⟩=some a0/\((w.setCell ⟨q,0,none⟩ a0).setCell ⟨q,1,none⟩ a1).cell? ⟨q,1,none⟩=some a1/\(((w.setCell ⟨q,0,none⟩ a0).setCell ⟨q,1,none⟩ a1).setCell ⟨q,2,none⟩ a2).cell? ⟨q,2,none⟩=some a2/\
  ((((w.setCell ⟨q,0,none⟩ a0).setCell ⟨q,1,none⟩ a1).setCell ⟨q,2,none⟩ a2).setCell ⟨q,3,none⟩ a3).cell? ⟨q,3,none⟩=some a3:=by
 have h0:=h.put 0 a0;have h1:=h0.put 1 a1;have h2:=h1.put 2 a2;have h3:=h2.put 3 a3;exact⟨h0.cell 0,h1.cell 1,h2.cell 2,h3.cell 3⟩
def Hx (k no t:Int) (b:ByteArray) (w:AI) (e:Ending) (w':AI):Prop:=e= .returned (.tuple #[.agg #[.int .i64 k,.int .i64 no,.int .i64 t,.string b],.int .i64 0])/\IT w.heap.size w w'
theorem x8{w:AI}{q g:Nat}{T S:List Nat}{P:eK}{D:DevS}(hp:Pg w q T g P)(hd:Dev w g S D)(hr:aS w)(hb:D.steps<=1000000000)(bF:D.off=false)(no:Nat)(h1:1<=no)(h2:(no:Int)<P.m.l){k t:Int}{b:ByteArray}(hx:D.vQ no k t b):
  aaf prog 156 #[.pointer (some ⟨q,0,none⟩),.int .i64 no] w (Hx k no t b w):=by
 obtain⟨sl,lg,kW⟩:=hp;have c0:w.cell? ⟨q,0,none⟩=some (.pointer (some ⟨g,0,none⟩)):=kW.cells.cell 0;have c5:w.cell? ⟨q,5,none⟩=some (.int .i64 P.m.l):=kW.cells.cell 5;have lq:=kW.cells.lt;obtain⟨s0,e0⟩:∃s,s=D.aF (4*no):=⟨_,rfl⟩;obtain⟨s1,e1⟩:∃s,s=D.aF (4*no+1):=⟨_,rfl⟩;obtain⟨s2,e2⟩:∃s,s=D.aF (4*no+2):=⟨_,rfl⟩;obtain⟨s3,e3⟩:∃s,s=D.aF (4*no+3):=⟨_,rfl⟩;have hf:=hx.fits;have fA:=hd.ok;have hm:=fA.most;have z0:s0.size=128:=by rw[e0];exact DevS.gN fA (by omega)
 have z1:s1.size=128:=by rw[e1];exact DevS.gN fA (by omega)
 have z2:s2.size=128:=by rw[e2];exact DevS.gN fA (by omega)
 have z3:s3.size=128:=by rw[e3];exact DevS.gN fA (by omega)
 have HR:∀(j:Nat) (s:ByteArray),j<4->s=D.aF (4*no+j)->Hid (∀(W:AI),IT w.heap.size w W->∀i:Int,i=4*(no:Int)+j->aaf prog 152 #[ptr g,.int .i64 i] W (oJ s 0 W)):=fun j s hj hs=>sh fun W hW i hi=>by
  subst hs hi;have:=cw (hd.below hW) ((4*no+j:Nat):Int) (D.aF (4*no+j)) 0 hb (DevS.RL bF (by omega));rw[show ((4*no+j:Nat):Int)=4*(no:Int)+j by omega]at this;exact this
 have HR0:=HR 0 s0 (by omega) e0;have F0:=HR 1 s1 (by omega) e1;have gY:=HR 2 s2 (by omega) e2;have Xa:=HR 3 s3 (by omega) e3;clear HR;have HU:=sh (show gS ⟨(s0.data.toList++(s1.data.toList++(s2.data.toList++s3.data.toList))).toArray⟩ k no t b by rw[e0,e1,e2,e3,<-aaa,<-aaa];exact hx.bytes);have rV:=sh hr;have y1:decide ((no:Int)<1)=false:=decide_eq_false (by omega);have y2:decide (P.m.l<=(no:Int))=false:=decide_eq_false (by omega);have hn:no<512:=by omega
 have HZ:=sh (show s0.size=128/\s1.size=128/\s2.size=128/\s3.size=128 from ⟨z0,z1,z2,z3⟩);have y3:((no:Int) != (no:Int))=false:=by simp
 clear e0 e1 e2 e3 hx hd kW z0 z1 z2 z3 fA hm hf bF hb hr h2;go_enter func156,ntmps156
 go_wp2_with fail
 refine wp_loop_rounds 5 ?_;rw[abF];go_wp2_with fail
 refine(HR0.out _ (((BY _ w).alloc (AS _) _).alloc (by simp) _) _ (by omega)).mono ?_;rintro e w1 ⟨rfl,rfl⟩;have O3:=sh (show SB (w.heap.size+1) (w.heap.size+1) [] ((w.alloc (.cells #[.int .i64 0,.int .i64 0,.int .i64 0,.string ⟨#[]⟩] 126)).alloc (.cells #[.pointer none,.slice none 0 0] 300)) from by have h:=WC (w.alloc (.cells #[.int .i64 0,.int .i64 0,.int .i64 0,.string ⟨#[]⟩] 126));rw[show (w.alloc (.cells #[.int .i64 0,.int .i64 0,.int .i64 0,.string ⟨#[]⟩] 126)).heap.size=w.heap.size+1 by simp]at h;exact h);have lj:=sh (show IT w.heap.size w ((w.alloc (.cells #[.int .i64 0,.int .i64 0,.int .i64 0,.string ⟨#[]⟩] 126)).alloc (.cells #[.pointer none,.slice none 0 0] 300)) from ((BY _ w).alloc (AS _) _).alloc (by simp) _);have Yt:=sh (show Bk ((w.alloc (.cells #[.int .i64 0,.int .i64 0,.int .i64 0,.string ⟨#[]⟩] 126)).alloc (.cells #[.pointer none,.slice none 0 0] 300)) w.heap.size 126 #[.int .i64 0,.int .i64 0,.int .i64 0,.string ⟨#[]⟩] from (Bk.new w _ _).alloc _);go_wp2_with fail
 refine(pB _ _ _ _ _ O3.out (by have:=HZ.out;simp only[AT,acW,cB];omega) (by have:=lj.out.size;simp)).mono ?_;rintro e v0 ⟨rfl,hs,hb⟩;have Ul:=sh hs;have bh:=sh (lj.out.trans (hb.mono (by simp)));have akp:v0.cell? ⟨q,0,none⟩=some (.pointer (some ⟨g,0,none⟩)):=(bh.out.cell (p:=⟨q,0,none⟩) lq).trans c0;have amL:q<v0.heap.size:=aal lq bh.out.size;have OX:=sh (show w.heap.size+1<v0.heap.size from by have h9:=hb.size;simp at h9;omega);have yA:=sh (show Bk v0 w.heap.size 126 #[.int .i64 0,.int .i64 0,.int .i64 0,.string ⟨#[]⟩] from (hb.block w.heap.size (by simp)).trans Yt.out);clear hs hb;go_wp2_with fail
 rw[abF];go_wp2_with fail
 refine(F0.out _ bh.out (4*(no:Int)+1) (by omega)).mono ?_;rintro e w3 ⟨rfl,rfl⟩;go_wp2_with fail
 refine(pB _ _ _ _ _ Ul.out (by have:=HZ.out;simp only[AT,acW,cB];omega) (by have:=bh.out.size;have:=OX.out;omega)).mono ?_;rintro e v1 ⟨rfl,hs,hb⟩;have jO:=sh hs;have bm:=sh (bh.out.trans (hb.mono (by simp)));have akq:v1.cell? ⟨q,0,none⟩=some (.pointer (some ⟨g,0,none⟩)):=(bm.out.cell (p:=⟨q,0,none⟩) lq).trans c0;have amM:q<v1.heap.size:=aal lq bm.out.size;have Dz:=sh (show w.heap.size+1<v1.heap.size from by have h9:=hb.size;have:=OX.out;omega);have pL:=sh (show Bk v1 w.heap.size 126 #[.int .i64 0,.int .i64 0,.int .i64 0,.string ⟨#[]⟩] from (hb.block w.heap.size (by simp)).trans yA.out);clear hs hb;go_wp2_with fail
 rw[abF];go_wp2_with fail
 refine(gY.out _ bm.out (4*(no:Int)+2) (by omega)).mono ?_;rintro e w5 ⟨rfl,rfl⟩;go_wp2_with fail
 refine(pB _ _ _ _ _ jO.out (by have:=HZ.out;simp only[AT,acW,cB];omega) (by have:=bm.out.size;have:=Dz.out;omega)).mono ?_;rintro e v2 ⟨rfl,hs,hb⟩;have YF:=sh hs;have du:=sh (bm.out.trans (hb.mono (by simp)));have akr:v2.cell? ⟨q,0,none⟩=some (.pointer (some ⟨g,0,none⟩)):=(du.out.cell (p:=⟨q,0,none⟩) lq).trans c0;have amN:q<v2.heap.size:=aal lq du.out.size;have HL3:=sh (show w.heap.size+1<v2.heap.size from by have h9:=hb.size;have:=Dz.out;omega);have Yw:=sh (show Bk v2 w.heap.size 126 #[.int .i64 0,.int .i64 0,.int .i64 0,.string ⟨#[]⟩] from (hb.block w.heap.size (by simp)).trans pL.out);clear hs hb;go_wp2_with fail
 rw[abF];go_wp2_with fail
 refine(Xa.out _ du.out (4*(no:Int)+3) (by omega)).mono ?_;rintro e w7 ⟨rfl,rfl⟩;go_wp2_with fail
 refine(pB _ _ _ _ _ YF.out (by have:=HZ.out;simp only[AT,acW,cB];omega) (by have:=du.out.size;have:=HL3.out;omega)).mono ?_;rintro e v3 ⟨rfl,hs,hb⟩;have vN:=sh hs;have fU:=sh (du.out.trans (hb.mono (by simp)));have aks:v3.cell? ⟨q,0,none⟩=some (.pointer (some ⟨g,0,none⟩)):=(fU.out.cell (p:=⟨q,0,none⟩) lq).trans c0;have amO:q<v3.heap.size:=aal lq fU.out.size;have HL4:=sh (show w.heap.size+1<v3.heap.size from by have h9:=hb.size;have:=HL3.out;omega);have Yx:=sh (show Bk v3 w.heap.size 126 #[.int .i64 0,.int .i64 0,.int .i64 0,.string ⟨#[]⟩] from (hb.block w.heap.size (by simp)).trans Yw.out);clear hs hb;go_wp2_with fail
 rw[abF];go_wp2_with fail
 refine(JM _ _ _ _ vN.out (by have:=HL4.out;simp;omega)).mono ?_;rintro e w8 ⟨rfl,hb⟩;have m5:=sh (fU.out.trans (hb.mono (by simp)));have HP5:=sh (show Bk w8 w.heap.size 126 #[.int .i64 0,.int .i64 0,.int .i64 0,.string ⟨#[]⟩] from (hb.block w.heap.size (by simp)).trans Yx.out);clear hb;go_wp2_with fail
 (with_reducible refine(J7 HU.out _ (rV.out.below m5.out)).mono ?_)
 rintro e w9 ⟨rfl,hb⟩;have TU:=sh (m5.out.trans (hb.mono m5.out.size));have Uh:=sh (ae HP5.out hb);clear hb;have lp:=Uh.out.lt;obtain⟨x0,x1,x2,x3⟩:=Uh.out.four;have f0:=Uh.out.frozen 0;have f1:=Uh.out.frozen 1;have f2:=Uh.out.frozen 2;have f3:=Uh.out.frozen 3;go_wp2_with fail
 obtain⟨u0,u1,u2,u3⟩:=Uh.out.He (.int .i64 k) (.int .i64 no) (.int .i64 t) (.string b);refine abT (v:= .tuple #[.agg #[.int .i64 k,.int .i64 no,.int .i64 t,.string b],.int .i64 0]) (by simp[results,results156,go_sem,lp,u0,u1,u2,u3]) rfl ⟨rfl,?_⟩;have ho:ah [w.heap.size] w9 ((((w9.setCell ⟨w.heap.size,0,none⟩ (.int .i64 k)).setCell ⟨w.heap.size,1,none⟩ (.int .i64 no)).setCell ⟨w.heap.size,2,none⟩ (.int .i64 t)).setCell ⟨w.heap.size,3,none⟩ (.string b)):=
  ((((ah.refl _ _).setCell (.inl (by simp)) _).setCell (.inl (by simp)) _).setCell (.inl (by simp)) _).setCell (.inl (by simp)) _
 exact(((ah.af TU.out []).then ho (fun x hx=>by rw[IN]at hx;subst hx;exact .inr (AS _))).alloc _).below (AS _) (by simp)
end Go.Proofs.YtjbcbnemdhbhbaaGreatDoor
namespace Go.Proofs.YtjbcbnemdhbhbaaGreatDoor
open Go.Proofs.Tryz
open Go.RowKit
structure Kv where
 t:Nat
 b:Nat
 q:Nat
 r:Nat
 g:Nat
 T:List Nat
 Sd:List Nat
 P:eK
 D:DevS
 s:St
 txn:Nat
 root:Int
 yW:Int
 limit:Nat
 U:List Nat
 pc:List Nat
 cq:ag
 rm:Nat
 bO:Int
 over:Bool
 c2:No
 c3:No
 c4:No
 ro:Option Obj
 base:Nat
 keep:List Nat
 held:Nat
def TP (txn n:Nat) (p:rW):No:= .agg #[.int .i64 p.kind,.int .i64 n,.int .i64 txn,.string p.body]
def dK (txn:Nat) (d:ag):Int->Option No:=fun i=>if 0<=i then (d i.toNat).map (TP txn i.toNat)else none
theorem jQ(txn:Nat)(d:ag)(n:Nat):dK txn d (n:Int)=(d n).map (TP txn n):=by
 unfold dK;rw[if_pos (by omega),Int.toNat_natCast]
theorem nT(txn:Nat)(d:ag)(n:Nat)(p:Option rW):(fun j=>if j=(n:Int)then p.map (TP txn n)else dK txn d j)=dK txn (Tr.cY d n p):=by
 funext j
 by_cases e:j=(n:Int)
 ·subst e;rw[if_pos rfl,jQ,Tr.fQ]
 ·rw[if_neg e]
  unfold dK;by_cases h:0<=j
  ·rw[if_pos h,if_pos h,Tr.dM _ _ (by omega)]
  ·rw[if_neg h,if_neg h]
def Kv.upto (E:Kv):Int:=min ((E.txn:Int)-2) (E.s.di ((E.txn:Int)-1))
abbrev aO (E:Kv) (x:Tx) (f dm:Nat) (lv fv:No):Array No:=
 #[.pointer (some ⟨E.b,0,none⟩),.int .i64 E.txn,.int .i64 E.txn,.int .i64 E.root,.int .i64 E.yW,.int .i64 x.aa,.int .i64 E.limit,.pointer (some ⟨f,0,none⟩),.map (some dm),lv,fv,.map (some E.rm),.int .i64 E.bO,.bool E.over]
structure Kv.Ok (E:Kv):Prop where
 txn:2<=E.txn
 J1:E.txn<=1099511627776
 on:E.D.off=false
 steps:E.D.steps<=1000000000
 lim:(E.limit:Int)=E.P.m.l
 zr:∀n p,E.cq n=some p->n<E.limit/\∃t:Int,E.D.vQ n p.kind t p.body
 upto:0<=E.upto
def aB (t f dm:Nat) (Sf:List Nat) (lv fv:No):List Nat:=t::dm::(lv.ownBlock.toList++(fv.ownBlock.toList++Sf))
def Kv.still (E:Kv):List Nat:=E.b::E.q::E.r::0::(E.T++E.Sd)
def kJ (o:Option Obj) (w:AI):Prop:=aS w/\w.heap[0]? =o
theorem kJ.lt{o:Option Obj}{w:AI}(h:kJ o w):0<w.heap.size:=h.1.lt
theorem kJ.off{o:Option Obj}{S:List Nat}{w w':AI}(h:kJ o w)(ho:ah S w w')(hS:0∉S):kJ o w':=⟨h.1.off ho hS,(ho.block _ h.1.lt hS).trans h.2⟩
theorem kJ.below{o:Option Obj}{w w':AI}(h:kJ o w)(hb:IT w.heap.size w w'):kJ o w':=h.off (ah.af hb []) (by simp)
structure bf (E:Kv) (w:AI) (S:List Nat) (hd:List Nat) (x:Tx) (f dm nn:Nat) (Sf:List Nat) (lv fv:No):Prop where
 cells:Bk w E.t 103 (aO E x f dm lv fv)
 free:FL w f Sf x.fr
 map:IMap prog 3 w dm nn (dK E.txn x.az)
 nn:nn<=600
 loose:w.ownsRow 0 3 1 lv x.loose.length (ints x.loose)
 aK:w.ownsRow 0 3 1 fv x.aK.length (ints x.aK)
 db:Bk w E.b 99 #[.pointer (some ⟨E.q,0,none⟩),.pointer (some ⟨E.r,0,none⟩),E.c2,E.c3,E.c4]
 rd:Bk w E.r 195 E.s.cells
 pg:Pg w E.q E.T E.g E.P
 dev:Dev w E.g E.Sd E.D
 row:kJ E.ro w
 ok:x.Ok E.limit E.cq E.U E.pc hd
 blocks:S=aB E.t f dm Sf lv fv++E.still
 nodup:(aB E.t f dm Sf lv fv).Nodup
 apart:∀b∈aB E.t f dm Sf lv fv,b∉E.still
theorem bf.off{E:Kv}{w w':AI}{S U hd:List Nat}{x:Tx}{f dm nn:Nat}{Sf:List Nat}{lv fv:No}(h:bf E w S hd x f dm nn Sf lv fv)(ho:ah U w w')(hU:∀b∈S,b∉U):bf E w' S hd x f dm nn Sf lv fv:=by
 have hm:∀b∈aB E.t f dm Sf lv fv,b∉U:=fun b hb=>hU b (by rw[h.blocks];exact By.2 (.inl hb));have hs:∀b∈E.still,b∉U:=fun b hb=>hU b (by rw[h.blocks];exact By.2 (.inr hb));have fw:=h.db;exact⟨ho.bk h.cells (hm _ (by simp[aB])),h.free.off ho (fun b hb=>hm b (by simp[aB,hb])),h.map.off ho (hm _ (by simp[aB])),h.nn,
  ho.own h.loose (fun b hb=>hm b (by simp[aB,hb])),ho.own h.aK (fun b hb=>hm b (by simp[aB,hb])),ho.bk fw (hs _ (by simp[Kv.still])),ho.bk h.rd (hs _ (by simp[Kv.still])),
  h.pg.off ho (fun b hb=>hs b (by simp[Kv.still,hb])),h.dev.off ho (fun b hb=>hs b (by simp[Kv.still,hb])),h.row.off ho (hs _ (by simp[Kv.still])),h.ok,h.blocks,h.nodup,h.apart⟩
theorem bf.old{E:Kv}{w:AI}{S hd:List Nat}{x:Tx}{f dm nn:Nat}{Sf:List Nat}{lv fv:No}(h:bf E w S hd x f dm nn Sf lv fv):∀b∈S,b<w.heap.size:=by
 intro b hb;have fw:=h.db;rw[h.blocks]at hb;rcases By.1 hb with hb|hb
 ·simp only[aB,OF,By,abG]at hb
  rcases hb with rfl|rfl|hb|hb|hb
  ·exact h.cells.lt
  ·exact h.map.lt
  ·exact(abq h.loose b hb).2
  ·exact(abq h.aK b hb).2
  ·exact h.free.old b hb
 ·simp only[Kv.still,OF,By]at hb
  rcases hb with rfl|rfl|rfl|rfl|hb|hb
  ·exact fw.lt
  ·obtain⟨_,_,hp⟩:=h.pg;exact hp.cells.lt
  ·exact h.rd.lt
  ·exact h.row.lt
  ·exact h.pg.old b hb
  ·exact h.dev.old b hb
def Tx.rest (x:Tx) (limit:Nat):Nat:=x.fr.length+(limit-x.aa)
structure Room (E:Kv) (F:Prop) (k:Nat) (x:Tx):Prop where
 sure:k<=x.sure E.limit E.upto.toNat
 eQ:∀y∈x.fr,y.1<E.txn
 base:F\/(E.base<=x.rest E.limit/\E.base+k<=x.rest E.limit+x.loose.length)
 nF:∀y∈x.fr,y.1<=E.upto.toNat->y.2∉E.keep
 j7:∀n,(n∈x.loose\/x.az n≠none)->n∉E.keep
 nG:∀n∈E.keep,n<x.aa
 held:(x.fr.filter fun y=>decide (E.upto.toNat<y.1)).length<=E.held
theorem Room.less{E:Kv}{F:Prop}{k k':Nat}{x:Tx}(h:Room E F k x)(hk:k'<=k):Room E F k' x:=
 ⟨abw hk h.sure,h.eQ,h.base.imp id (fun⟨a,b⟩=>⟨a,by omega⟩),h.nF,h.j7,h.nG,h.held⟩
theorem Room.zero{E:Kv}{F:Prop}{k:Nat}{x:Tx}(h:Room E F k x):Room E F 0 x:=h.less (abi _)
theorem Room.other{E E':Kv}{F:Prop}{k:Nat}{x:Tx}(h:Room E F k x)(he:E'.limit=E.limit/\E'.s=E.s/\E'.txn=E.txn/\E'.base=E.base/\E'.keep=E.keep/\E'.held=E.held):Room E' F k x:=by
 obtain⟨e1,e2,e3,e4,e5,e6⟩:=he;have hu:E'.upto=E.upto:=by unfold Kv.upto;rw[e2,e3]
 exact⟨by rw[e1,hu];exact h.sure,by rw[e3];exact h.eQ,by rw[e1,e4];exact h.base,by rw[hu,e5];exact h.nF,by rw[e5];exact h.j7,by rw[e5];exact h.nG,by rw[hu,e6];exact h.held⟩
theorem Room.take{E:Kv}{F:Prop}{k n:Nat}{x x':Tx}(h:Room E F k x)(t:Tx.ek E.limit E.upto.toNat x n x')(hk:F\/1<=k):Room E F (k-1) x'/\n∉E.keep:=by
 have hs:=t.sure;have h1:=h.sure;cases t with
 | loose l n hl=>
  refine⟨⟨by omega,h.eQ,?_,h.nF,fun m hm=>h.j7 m (hm.imp (fun h9=>by rw[hl];simp[h9]) id),h.nG,h.held⟩,h.j7 n (.inl (by rw[hl];simp))⟩;rcases h.base with hb|⟨b1,b2⟩
  ·exact .inl hb
  ·rcases hk with hk|hk
   ·exact .inl hk
   ·rw[hl,AT,adl]at b2
    exact .inr ⟨b1,by show E.base+(k-1)<=x.rest E.limit+l.length;omega⟩
 | free f n r hl hf hu=>
  refine⟨⟨by omega,fun y hy=>h.eQ y (by rw[hf];simp[hy]),?_,fun y hy=>h.nF y (by rw[hf];simp[hy]),h.j7,h.nG,by
   have h9:=h.held;rw[hf,List.filter_cons_of_neg (by simp;exact hu)]at h9;exact h9⟩,h.nF (f,n) (by rw[hf];simp) hu⟩
  rcases h.base with hb|⟨b1,b2⟩
  ·exact .inl hb
  ·rcases hk with hk|hk
   ·exact .inl hk
   ·unfold Tx.rest at b1 b2 |-
    rw[hf,List.length_cons]at b1 b2;rw[hl,acW]at b2;exact .inr ⟨by show E.base<=r.length+(E.limit-x.aa);omega,by show E.base+(k-1)<=r.length+(E.limit-x.aa)+x.loose.length;omega⟩
 | more hl hf hp=>
  refine⟨⟨by omega,h.eQ,?_,h.nF,h.j7,fun m hm=>Nat.lt_succ_of_lt (h.nG m hm),h.held⟩,fun hm=>Nat.lt_irrefl _ (h.nG _ hm)⟩;rcases h.base with hb|⟨b1,b2⟩
  ·exact .inl hb
  ·rcases hk with hk|hk
   ·exact .inl hk
   ·unfold Tx.rest at b1 b2 |-
    rw[hl,acW]at b2;exact .inr ⟨by show E.base<=x.fr.length+(E.limit-(x.aa+1));omega,by show E.base+(k-1)<=x.fr.length+(E.limit-(x.aa+1))+x.loose.length;omega⟩
theorem Room.EY{E:Kv}{F:Prop}{k n:Nat}{x:Tx}(h:Room E F k x)(hd:x.az n≠afA):Room E F k { x with az:=Tr.cY x.az n afA,loose:=x.loose++[n] }:=by
 have hb:F\/(E.base<=x.rest E.limit/\E.base+k<=x.rest E.limit+(x.loose++[n]).length):=by
  rcases h.base with h1|⟨h1,h2⟩
  ·exact .inl h1
  ·rw[AT,adl]
   exact .inr ⟨h1,by omega⟩
 refine⟨abw h.sure ?_,h.eQ,hb,h.nF,fun m hm=> ?_,h.nG,h.held⟩
 ·unfold Tx.sure
  simp only[AT,adl];omega
 ·rcases hm with hm|hm
  ·rcases By.1 hm with hm|hm
   ·exact h.j7 m (.inl hm)
   ·rw[IN]at hm
    subst hm;exact h.j7 _ (.inr hd)
  ·refine h.j7 m (.inr fun e=>hm ?_)
   show Tr.cY x.az n afA m=afA;unfold Tr.cY;split
   ·rfl
   ·exact e
theorem Room.lay{E:Kv}{F:Prop}{k n:Nat}{x:Tx}(h:Room E F k x)(hn:n∉E.keep)(p:rW):Room E F k { x with az:=Tr.cY x.az n (some p) }:=
 ⟨h.sure,h.eQ,h.base,h.nF,fun m hm=>by
  by_cases e:m=n
  ·rw[e];exact hn
  ·refine h.j7 m (hm.imp id fun h9=> ?_)
   rwa [show ({ x with az:=Tr.cY x.az n (some p) }:Tx).az m=x.az m from Tr.dM _ _ e]at h9,h.nG,h.held⟩
theorem Room.free{E:Kv}{F:Prop}{k:Nat}{x:Tx}(h:Room E F k x)(l:List Nat):Room E F k { x with aK:=l }:=⟨h.sure,h.eQ,h.base,h.nF,h.j7,h.nG,h.held⟩
def gA (E:Kv) (F:Prop):ay where
 T:=111
 v:= .agg #[.pointer (some ⟨E.t,0,none⟩)]
 At w S σ k:=∃(x:Tx) (f dm nn:Nat) (Sf:List Nat) (lv fv:No),bf E w S [] x f dm nn Sf lv fv/\ σ =x.book E.cq E.U/\Room E F k x
 F:=F
theorem px{E:Kv}{w:AI}{S hd:List Nat}{x:Tx}{f dm nn:Nat}{Sf:List Nat}{lv fv:No}(h:bf E w S hd x f dm nn Sf lv fv)(n:Nat)(hn:n<512)(W:AI)(ho:ah [] w W):
  (acR 100 (.map (some dm)) (.int .i64 n) true).run prog W= .ok (.tuple #[((x.az n).map (TP E.txn n)).getD (.agg #[.int .i64 0,.int .i64 0,.int .i64 0,.string ⟨#[]⟩]),.bool (x.az n).isSome]) W:=by
 have hm:=h.map.off ho (by simp);have h1:=hm.Nw underlying3 underlying100 (z:= .agg #[.int .i64 0,.int .i64 0,.int .i64 0,.string ⟨#[]⟩]) (by kernel_rfl) (i:=(n:Int)) (C0 (by omega) (by omega));rw[jQ]at h1;rw[h1];cases x.az n<;>rfl
theorem Kc{E:Kv}{w:AI}{S hd:List Nat}{x:Tx}{f dm nn:Nat}{Sf:List Nat}{lv fv:No}(h:bf E w S hd x f dm nn Sf lv fv)(n:Nat)(p:rW)(hp:x.az n=some p):
  aaf prog 318 #[.agg #[.pointer (some ⟨E.t,0,none⟩)],.int .i64 n] w (fun e w'=>IT w.heap.size w w'/\∃a b:Int,e= .returned (.tuple #[.agg #[.int .i64 p.kind,.int .i64 a,.int .i64 b,.string p.body],.int .i64 0])):=by
 have hr:=h.ok.range.2.1 n (by rw[hp];simp);have hn:n<512:=by have:=h.ok.le;have:=h.ok.lim;omega
 have c0:=h.cells.cell 0;have c8:=h.cells.cell 8;have lt:=h.cells.lt;have hl:∀W,ah [] w W->(acR 100 (.map (some dm)) (.int .i64 n) true).run prog W= .ok (.tuple #[TP E.txn n p,.bool true]) W:=fun W hW=>by
  have:=px h n hn W hW;rw[hp]at this;exact this
 have HL:=sh (hl ((w.alloc (.cells #[.pointer (some ⟨E.t,0,none⟩)] 111)).alloc (.cells #[.int .i64 0,.int .i64 0,.int .i64 0,.string ⟨#[]⟩] 126)) (((ah.refl [] w).alloc _).alloc _));unfold TP at HL;clear h hp hl;have hl2:=HL.out;go_enter func318,ntmps318
 go_wp2_with fail
 refine abT (v:= .tuple #[.agg #[.int .i64 p.kind,.int .i64 n,.int .i64 E.txn,.string p.body],.int .i64 0]) (by simp[results,results318,go_sem]) rfl ⟨?_,n,E.txn,rfl⟩;exact(((BY _ w).alloc (AS _) _).alloc (by simp) _).alloc (by simp;omega) _
theorem FV{E:Kv}(hE:E.Ok){w:AI}{S hd:List Nat}{x:Tx}{f dm nn:Nat}{Sf:List Nat}{lv fv:No}(h:bf E w S hd x f dm nn Sf lv fv)(n:Nat)(p:rW)(kx:x.az n=none)(hu:n∈E.U)(hp:E.cq n=some p):
  aaf prog 318 #[.agg #[.pointer (some ⟨E.t,0,none⟩)],.int .i64 n] w (fun e w'=>IT w.heap.size w w'/\∃a b:Int,e= .returned (.tuple #[.agg #[.int .i64 p.kind,.int .i64 a,.int .i64 b,.string p.body],.int .i64 0])):=by
 have hr:=h.ok.range.2.2.2.1 n hu;have hn:n<512:=by have:=h.ok.le;have:=h.ok.lim;omega
 have fw:=h.db;have c0:w.cell? ⟨E.t,0,none⟩=some (.pointer (some ⟨E.b,0,none⟩)):=h.cells.cell 0;have c8:w.cell? ⟨E.t,8,none⟩=some (.map (some dm)):=h.cells.cell 8;have d0:w.cell? ⟨E.b,0,none⟩=some (.pointer (some ⟨E.q,0,none⟩)):=fw.cell 0;have lb:=fw.lt;have lt:=h.cells.lt;obtain⟨kA,tt,uy⟩:=hE.zr n p hp;have hl:∀W,ah [] w W->(acR 100 (.map (some dm)) (.int .i64 n) true).run prog W= .ok (.tuple #[.agg #[.int .i64 0,.int .i64 0,.int .i64 0,.string ⟨#[]⟩],.bool false]) W:=fun W hW=>by
  have:=px h n hn W hW;rw[kx]at this;exact this
 have HL:=sh (hl ((w.alloc (.cells #[.pointer (some ⟨E.t,0,none⟩)] 111)).alloc (.cells #[.int .i64 0,.int .i64 0,.int .i64 0,.string ⟨#[]⟩] 126)) (((ah.refl [] w).alloc _).alloc _));have YA:=sh fun(W:AI) (hb:IT w.heap.size w W)=>x8 (h.pg.below hb) (h.dev.below hb) (h.row.below hb).1 hE.steps hE.on n hr.1 (by rw[<-hE.lim];omega) uy;clear h hp hl kx hu hE uy fw kA;have hl2:=HL.out;have lt1:E.t<w.heap.size+1:=by omega
 have Ri:E.t<w.heap.size+1+1:=by omega
 have lb1:E.b<w.heap.size+1:=by omega
 have lb2:E.b<w.heap.size+1+1:=by omega
 go_enter func318,ntmps318
 go_wp2_with fail
 (with_reducible refine(YA.out _ ?_).mono ?_)
 ·exact(((BY _ w).alloc (AS _) _).alloc (by simp) _).alloc (by simp;omega) _
 rintro e w1 ⟨rfl,ar⟩;have pS:(w.alloc (.cells #[.pointer (some ⟨E.t,0,none⟩)] 111)).heap.size=w.heap.size+1:=by simp
 have aT:=ae ((Bk.new (w.alloc (.cells #[.pointer (some ⟨E.t,0,none⟩)] 111)) 126 #[.int .i64 0,.int .i64 0,.int .i64 0,.string ⟨#[]⟩]).alloc (.cells #[.int .i64 0,.int .i64 0,.int .i64 0,.string ⟨#[]⟩] 126)) ar;rw[pS]at aT;have pJ:=sh aT;have HB:=sh ((((((BY _ w).alloc (AS _) (.cells #[.pointer (some ⟨E.t,0,none⟩)] 111)).alloc (by simp) (.cells #[.int .i64 0,.int .i64 0,.int .i64 0,.string ⟨#[]⟩] 126)).alloc (by simp;omega) (.cells #[.int .i64 0,.int .i64 0,.int .i64 0,.string ⟨#[]⟩] 126))).trans (ar.mono (by simp;omega)));obtain⟨x0,x1,x2,x3⟩:=aT.four;have f0:=aT.frozen 0;have f1:=aT.frozen 1;have f2:=aT.frozen 2;have f3:=aT.frozen 3;have lp:=aT.lt;clear ar aT pS;go_wp2_with fail
 obtain⟨u0,u1,u2,u3⟩:=pJ.out.He (.int .i64 p.kind) (.int .i64 n) (.int .i64 tt) (.string p.body);refine abT (v:= .tuple #[.agg #[.int .i64 p.kind,.int .i64 n,.int .i64 tt,.string p.body],.int .i64 0]) (by simp[results,results318,go_sem,lp,u0,u1,u2,u3]) rfl ⟨?_,n,tt,rfl⟩;have ho:ah [w.heap.size+1] w1 ((((w1.setCell ⟨w.heap.size+1,0,none⟩ (.int .i64 p.kind)).setCell ⟨w.heap.size+1,1,none⟩ (.int .i64 n)).setCell ⟨w.heap.size+1,2,none⟩ (.int .i64 tt)).setCell ⟨w.heap.size+1,3,none⟩ (.string p.body)):=
  ((((ah.refl _ _).setCell (.inl (by simp)) _).setCell (.inl (by simp)) _).setCell (.inl (by simp)) _).setCell (.inl (by simp)) _
 exact((ah.af HB.out []).then ho (fun y hy=>by rw[IN]at hy;subst hy;exact .inr (by omega))).below (AS _) (by simp)
def PE (f:Nat) (S:List Nat) (l:List (Nat×Nat)) (w:AI) (e:Ending) (w':AI):Prop:=e= .returned (.int .i64 0)/\∃S',rT w' f S' l/\ah S w w'/\aj w S S'
theorem Qx{w:AI}{f:Nat}{S:List Nat}{l:List (Nat×Nat)}(h:rT w f S l)(hs:Fr.Sorted l)(hl:l.length<=900)(x:Nat×Nat)(hx:Fr.ok x=true)(hn:x.2∉Fr.pg l):
  aaf prog 159 #[.pointer (some ⟨f,0,none⟩),.agg #[.int .i64 x.1,.int .i64 x.2]] w (PE f S (Fr.ins l x) w):=by
 have hp:x.2<512:=by unfold Fr.ok at hx;simp at hx;omega
 obtain⟨⟨A,c,h1,h2,h3⟩,h6,h7⟩:=h;have H1:=sh h1;have H2:=sh h2;have H3:=sh h3;have H6:=sh h6;have H7:=sh h7;have Ko:=sh fun(W:AI)=>xB x W hx;have HSE:=sh fun(W:AI) (hb:IT w.heap.size w W)=>AY (c:=c) (h2.row.1.below hb) hs (by omega) x;have c0:=(h1.cell 0).trans (bu A c l);have lf:=h1.lt;have cp:=(h1.cell (1+x.2)).trans (nX A c l x.2 hp);rw[decide_eq_false hn]at cp;have f0:=h1.frozen 0;have fp:=h1.frozen (1+x.2);obtain⟨p,VU⟩:∃p,p=x.2:=⟨_,rfl⟩;have HP:=sh VU;rw[<-VU]at cp fp hp;have HX:=sh (show ∀W,IT (w.heap.size+1) (w.alloc (.cells #[.int .i64 x.1,.int .i64 x.2] 62)) W->W.cell? ⟨f,0,none⟩=some (.slice A l.length c)/\W.cell? ⟨w.heap.size,0,none⟩=some (.int .i64 x.1)/\W.cell? ⟨w.heap.size,1,none⟩=some (.int .i64 p)/\W.cell? ⟨f,1+p,none⟩=some (.bool false) from fun W hW=>by
  have q1:=ae (Bk.new w 62 #[.int .i64 x.1,.int .i64 x.2]) (w':=W) (by simpa using hW);have hb:IT w.heap.size w W:=((BY _ w).alloc (AS _) _).trans (hW.mono (by omega));exact⟨(hb.cell (p:=⟨f,0,none⟩) lf).trans c0,q1.cell 0,by rw[HP.out];exact q1.cell 1,(hb.cell (p:=⟨f,1+p,none⟩) lf).trans cp⟩)
 have z1:decide ((p:Int)<512)=true:=decide_eq_true (by omega);have oZ:(p:Int)<512:=by omega
 obtain⟨n,rj⟩:∃n,n=l.length:=⟨_,rfl⟩;have HN:=sh rj;rw[<-rj]at c0 HX hl HSE;clear h1 h2 h3 h6 h7 hs hx hn VU rj;go_enter func159,ntmps159
 go_wp2_with fail
 (with_reducible refine(Ko.out _).mono ?_)
 rintro e w1 ⟨rfl,ar⟩;have bh:=sh (show IT (w.heap.size+1) (w.alloc (.cells #[.int .i64 x.1,.int .i64 x.2] 62)) w1 from by simpa using ar);obtain⟨x0,x1,x2,x3⟩:=HX.out w1 bh.out;have lf1:f<w1.heap.size:=by have:=bh.out.size;simp at this;omega
 have lw1:w.heap.size<w1.heap.size:=by have:=bh.out.size;simp at this;omega
 clear ar;go_wp2_with fail
 go_quiet (fail)
 go_wp2_with fail
 have aC:=below_drewN bh.out nq;generalize w1.drewN nq=v1 at aC |-;clear x0 x1 x2 x3 lf1 lw1;have bm:=sh aC;have cZ:=aC.size;simp at cZ;have lf2:f<v1.heap.size:=by omega
 have lw2:w.heap.size<v1.heap.size:=by omega
 have Sh:=sh fun(W:AI) (hW:IT v1.heap.size v1 W)=>HX.out W (aC.trans (hW.mono (by omega)));clear aC;go_region_held3 (fun W=>W.cell? ⟨f,0,none⟩=some (.slice A n c)/\W.cell? ⟨w.heap.size,0,none⟩=some (.int .i64 x.1)/\W.cell? ⟨w.heap.size,1,none⟩=some (.int .i64 p)) (first|(refine(fun h=>⟨h.1,h.2.1,h.2.2.1⟩) (Sh.out _ ?_);with_reducible (first|exact(BY _ _).drew|exact PJ.out))|fail) (first
  | (go_at_call 215;go_must ((rw[HP.out]);(with_reducible refine(HSE.out _ (((BY _ w).alloc (AS _) _).trans ((bm.out.drew).mono (by omega)))).mono ?_);rintro e w3 ⟨q,rfl,aN⟩;have PJ:=sh (show IT v1.heap.size v1 w3 from (BY _ _).drew.trans aN);clear aN)))
 have SA:=PJ.out;have aN:IT (w.heap.size+1) (w.alloc (.cells #[.int .i64 x.1,.int .i64 x.2] 62)) w3:=bm.out.trans (SA.mono (by omega));have zV:=SA.size;have lf3:f<w3.heap.size:=by omega
 have lw3:w.heap.size<w3.heap.size:=by omega
 have ff0:w3.frozen? ⟨f,0,none⟩=false:=((YZ (((BY _ w).alloc (AS _) _).trans (aN.mono (by omega)))).2 f 0 (by omega)).trans f0;have du:=sh aN;have HX3:=sh fun(W:AI) (hW:IT w3.heap.size w3 W)=>HX.out W (aN.trans (hW.mono (by omega)));clear SA aN;obtain⟨x0,x1,x2,x3⟩:=HX3.out w3 (BY _ _);have KS:=sh (show fC w3 0 (.slice A n c) l from by rw[HN.out];exact(ah.af (((BY _ w).alloc (AS _) _).trans (du.out.mono (by omega))) []).own H2.out (by simp));go_wp2_with fail
 have yz:=sh (show ∀(b:Nat) (W:AI),fC W 0 (.slice A n c) l->Bk W b 62 #[.int .i64 x.1,.int .i64 p]->aaT (.slice A n c)≠some b->aaf prog 217 #[.slice A n c,.int .i64 (Fr.spot l x),.slice (some ⟨b,0,none⟩) 1 1] W (oL 0 (.slice A n c) (Fr.ins l x) W) from fun b W h1 h2 h3=>by
  rw[HN.out]at h1 h3 |-;rw[HP.out]at h2;exact AR A 0 b (Fr.spot l x) c l x W h1 (abi _) (Fr.ic l x) (by rw[<-HN.out];omega) h2 h3)
 have W8:=sh (show aaT (.slice A n c)≠some w3.heap.size from fun e=>by have:=(abq KS.out _ e).2;omega);have Hu:=sh (show fC ((w3.alloc (.cells #[.int .i64 x.1,.int .i64 p] 62)).drew) 0 (.slice A n c) l/\Bk ((w3.alloc (.cells #[.int .i64 x.1,.int .i64 p] 62)).drew) w3.heap.size 62 #[.int .i64 x.1,.int .i64 p]/\Bk ((w3.alloc (.cells #[.int .i64 x.1,.int .i64 p] 62)).drew) f 165 (bY A c l) from
  ⟨((ah.refl [] w3).alloc _).drew.own KS.out (by simp),(Bk.new w3 _ _).drew,((ah.af (((BY _ w).alloc (AS _) _).trans (du.out.mono (by omega))) []).bk H1.out (by simp) |>.alloc _).drew⟩)
 have HNF:=sh (show aaT (.slice A n c)≠some f from cz KS.out ((ah.af (((BY _ w).alloc (AS _) _).trans (du.out.mono (by omega))) []).bk H1.out (by simp)) (by decide));have Wm:w3.heap.size<((w3.alloc (.cells #[.int .i64 x.1,.int .i64 p] 62)).drew).heap.size:=by simp
 go_region_law ((first
  | (go_simp;go_at_call 217;(with_reducible refine(yz.out w3.heap.size _ Hu.out.1 Hu.out.2.1 W8.out).mono ?_);rintro e w4 ⟨S4,A4,c4,Xg,uu,rfl,cd,Tf⟩;have iU:=uu.bk Hu.out.2.2 (fun hs=>HNF.out (Xg _ hs));have y0:w4.cell? ⟨f,0,none⟩=some (.slice A l.length c):=(iU.cell 0).trans (bu A c l);have y1:=iU.frozen 0;have y2:=iU.lt)
  | fail))
 all_goals
  have UU:∀g∈S4,g<w.heap.size/\A=some ⟨g,0,none⟩:=fun g hg=>by
   have h9:=Xg g hg;obtain⟨a,rfl⟩:∃a,A=some a:=by
    cases A with
    | none=>simp[aaT]at h9
    | some a=>exact⟨a,rfl⟩
   have h8:=(H2.out.row).2.2.2.2.1 a rfl;rw[h8.1]at h9;have e:a.block=g:=by simpa[aaT]using h9
   subst e;exact⟨h8.2.2,by rw[<-h8.1]⟩
  have bT:Bk w4 w.heap.size 62 #[.int .i64 x.1,.int .i64 x.2]:=uu.bk ((ae (ae (Bk.new w 62 #[.int .i64 x.1,.int .i64 x.2]) (w':=w3) (by have:=du.out;simpa using this)) ((BY _ _).alloc (AS _) _)).drew) (fun hs=>by have:=(UU _ hs).1;omega);have hfb:f≠w.heap.size:=by omega
  have cV:=bT.vV (p:=⟨f,0,none⟩) (fun e=>hfb e.symm) (.slice A4 (Fr.ins l x).length c4);have Pe:=iU.put 0 (.slice A4 (Fr.ins l x).length c4);have Po:=(ah.refl [f] w4).setCell (p:=⟨f,0,none⟩) (.inl (by simp)) (.slice A4 (Fr.ins l x).length c4);generalize w4.setCell ⟨f,0,none⟩ (.slice A4 (Fr.ins l x).length c4)=w5 at cV Pe Po |-;have u1:w5.cell? ⟨w.heap.size,1,none⟩=some (.int .i64 p):=by rw[HP.out];exact cV.cell 1
  have u2:=Pe.frozen (1+p);have u3:w5.cell? ⟨f,1+p,none⟩=some (.bool (decide (p∈Fr.pg l))):=by
   rw[Pe.cell (1+p),Array.getElem?_setIfInBounds,if_neg (by omega)];exact nX A c l p hp
  have u4:=Pe.lt;have u5:=cV.lt;have XU:=sh Pe;have tB:=sh uu;have HO5:=sh Po;have vN:=sh UU;have KT:=sh cd;have Yl:=sh Tf;have TW:=sh iU;clear bT cV Pe Po UU cd Tf iU uu Xg y0 y1 y2 x0 x1 x2 x3;go_wp2_with fail
  go_region_law (fail)
  all_goals
   go_wp2_with fail
   go_ret
   have VH:=cz KT.out TW.out (by decide);have Bw:ah [f] w4 ((w5.setCell ⟨f,1+p,none⟩ (.bool true)).drew):=(HO5.out.setCell (p:=⟨f,1+p,none⟩) (.inl (by simp)) _).drew;have cQ:=Bw.own KT.out (fun g hg hs=>by rw[IN]at hs;subst hs;exact VH hg);have kB:=xC A A4 c c4 l (Fr.ins l x) p true hp (by rw[HP.out];exact Fr.Mi l x);have ZC:Bk ((w5.setCell ⟨f,1+p,none⟩ (.bool true)).drew) f 165 (bY A4 c4 (Fr.ins l x)):=by rw[<-kB];exact(XU.out.put (1+p) _).drew
   have hA4:∀a,A4=some a->aaT (.slice A4 (Fr.ins l x).length c4)=some a.block/\a.block<w4.heap.size:=fun a ha=>by
    have h8:=(KT.out.row).2.2.2.2.1 a ha;refine⟨?_,h8.2.2⟩;rw[ha,h8.1];rfl
   have aaK:ah S w ((w5.setCell ⟨f,1+p,none⟩ (.bool true)).drew):=by
    have o3:ah S w w3:=ah.af (((BY _ w).alloc (AS _) _).trans (du.out.mono (by omega))) S;have o4:=(o3.alloc (.cells #[.int .i64 x.1,.int .i64 p] 62)).drew.then tB.out (fun g hg=> .inl (H3.out ⟨g,0,none⟩ (vN.out g hg).2));exact o4.then Bw (fun g hg=>by rw[IN]at hg;subst hg;exact .inl H6.out)
   refine⟨rfl,f::(aaT (.slice A4 (Fr.ins l x).length c4)).toList,⟨⟨A4,c4,ZC,cQ,fun a ha=> ?_⟩,by simp,fun b hb=> ?_⟩,aaK,fun b hb=> ?_⟩
   ·rw[(hA4 a ha).1];simp
   ·rcases OF.1 hb with rfl|hb
    ·exact ZC.lt
    ·rw[abG]at hb
     exact(abq cQ b hb).2
   ·rcases OF.1 hb with rfl|hb
    ·exact .inl H6.out
    ·rw[abG]at hb
     rcases Yl.out b hb with h9|h9
     ·left
      obtain⟨a,rfl⟩:∃a,A=some a:=by
       cases A with
       | none=>simp[aaT]at h9
       | some a=>exact⟨a,rfl⟩
      have h8:=(H2.out.row).2.2.2.2.1 a rfl;have h7:=H3.out a rfl;rw[h8.1]at h9 h7;have e:a.block=b:=by simpa[aaT]using h9
      rw[<-e];exact h7
     ·right
      simp at h9;omega
end Go.Proofs.YtjbcbnemdhbhbaaGreatDoor
