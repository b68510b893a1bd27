import Derived.Test.YtjbcbnemdhbhbaaGreatDoorA13
import Derived.Test.YtjbcbnemdhbhbaaGreatDoorA6
import Derived.Deep.RegionHeld3
import Derived.Test.YtjbcbnemdhbhbaaGreatDoorA7
set_option maxRecDepth 100000
set_option linter.unusedVariables false
set_option linter.unusedSimpArgs false
set_option maxHeartbeats 40000000
open Bool renaming false_eq_true→adg
open Go renaming Calls→aaf,World→AI,maxLen→abj
open Go.Addr.mk renaming injEq→adP
open Go.Lib renaming hid→sh
open Go.RowKit renaming Below→IT
open Go.RowKit.Below renaming refl→BY
open Go.Value renaming ownBlock→aaT
open Go.World.ownsRow renaming lt→abq
open List renaming getElem?_eq_some_iff→abB,getElem_cons_zero→acQ,length_append→AT,length_map→IS,map_append→abI,mem_append→By,mem_flatMap→abr,mem_map_of_mem→abO,nodup_cons→abJ
open Nat renaming add_zero→adh,le_refl→AS,lt_of_lt_of_le→aal,zero_le→abi,zero_mul→adA
open Option.some renaming injEq→acx
namespace Go.Proofs.YtjbcbnemdhbhbaaGreatDoor
open Go.Proofs.Tryz
open Go.RowKit
def gw (p:ay) (S:List Nat) (σ':ag) (k:Nat) (ps:List Pt) (w:AI) (e:Ending) (w':AI):Prop:=
 ∃(S':List Nat) (r:Rw),e= .returned (.tuple #[.slice r.A r.n r.c,.int .i64 0])/\gF w' (Cl 0 S') r ps/\p.At w' S' σ' k/\ah S w w'/\aj w S S'
theorem ve{w:AI}{S:Nat->Prop}{jH n1 c1 n2 c2:Nat}{A1 A2:Option Addr}{a b:List Ce}(h:Bk w jH 174 #[.slice A1 n1 c1,.slice A2 n2 c2])(hS:S jH)
  (h1:aW w S ⟨A1,n1,c1⟩ a) (h2:aW w S ⟨A2,n2,c2⟩ b):fZ 1 P9 w S ⟨some ⟨jH,0,none⟩,2,2⟩ [a,b]:=by
 refine⟨rfl,AS _,by unfold abj;show 2<=_;omega,fun i d hd=> ?_⟩
 match i with
 | 0=>
  obtain rfl:a=d:=by simpa using hd
  refine⟨jH,0,[.slice A1 n1 c1],rfl,⟨hS,h.lt⟩,rfl,fun j u hu=> ?_,A1,n1,c1,rfl,h1⟩;have hj:j=0:=by have:=(abB.1 hu).1;simp at this;omega
  subst hj;rw[h.cell];simpa using hu
 | 1=>
  obtain rfl:b=d:=by simpa using hd
  refine⟨jH,0,[.slice A2 n2 c2],rfl,⟨hS,h.lt⟩,rfl,fun j u hu=> ?_,A2,n2,c2,rfl,h2⟩;have hj:j=0:=by have:=(abB.1 hu).1;simp at this;omega
  subst hj;rw[h.cell];simpa using hu
 | i+2=>simp at hd
theorem aW.some{w:AI}{S:Nat->Prop}{r:Rw}{l:List Ce}(h:aW w S r l)(h0:0<l.length):∃b o c,r=⟨Option.some ⟨b,o,none⟩,l.length,c⟩/\b<w.heap.size/\l.length<=c/\c<=abj:=by
 obtain⟨A,n,c⟩:=r;obtain⟨b,o,hA,hS,-⟩:=h.at 0 h0;simp only at hA;subst hA;obtain⟨h1,h2,h3,-⟩:=h;simp only at h1 h2 h3;subst h1;exact⟨b,o,c,rfl,hS.2,h2,h3⟩
theorem ow{w w2:AI}{t1 t2:TypeId}{Xc cs2:Array Value}(hb:IT ((w.alloc (.cells Xc t1)).alloc (.cells cs2 t2)).heap.size ((w.alloc (.cells Xc t1)).alloc (.cells cs2 t2)) w2):
  Bk w2 w.heap.size t1 Xc/\Bk w2 (w.heap.size+1) t2 cs2/\IT w.heap.size w w2/\w.heap.size+2<=w2.heap.size:=by
 have h:=Bk.new (w.alloc (.cells Xc t1)) t2 cs2;rw[show (w.alloc (.cells Xc t1)).heap.size=w.heap.size+1 by simp]at h;have hs:=hb.size;simp at hs;exact⟨ae ((Bk.new w t1 Xc).alloc _) hb,ae h hb,(((BY _ w).alloc (AS _) _).alloc (by simp) _).trans (hb.mono (by simp;omega)),by omega⟩
theorem ES{p:ay}(hp:cR p){w:AI}{S:List Nat}{σ :ag}{k:Nat}(h:p.At w S σ k)(leaf:Bool)(k0 k1:Ce)(A2:Option Addr)(lE:Nat)(h2:aW w (Cl 0 S) ⟨A2,2,lE⟩ [k0,k1])(vB:ByteArray)(xr:Rw)(L R:List Ce)(hx:aW w (Cl 0 S) xr L)
  (hσ : σ k1.child=some ⟨if leaf then 1 else 2,Nd.str leaf R⟩) (hr:Nd.right leaf R=true) (hs:Nd.sum leaf R<=488)
  (Th:0<R.length) (M7:L.length<=1000) (dN:∀c∈L++Nd.first leaf k1.key R,Nd.aL leaf c=true) (dL:Nd.sum leaf (L++Nd.first leaf k1.key R)<=750):
  aaf prog 223 #[.iface p.T p.v,.slice A2 2 lE,.int .i64 0,.agg #[.string vB,.bool leaf,.slice xr.A xr.n xr.c]] w
   (gw p S (Tr.cY σ k1.child none) k (Tr.ck k0.key leaf (L++Nd.first leaf k1.key R)) w):=by
 obtain⟨b2,o2,c2,Gp,aC,-,Ef⟩:=h2.some (by simp);injection Gp with e1 e2 e3;subst e1 e3;obtain⟨b',o',na,-,p0,p1,p2,p3,p4⟩:=h2.at 0 (by simp);obtain⟨b'',o'',Bc,-,r0,r1,r2,r3,r4⟩:=h2.at 1 (by simp);simp only[acx,adP,and_true]at na Bc;obtain⟨rfl,rfl⟩:=na;obtain⟨rfl,rfl⟩:=Bc;simp only[acQ,List.getElem_cons_succ,adA,Nat.one_mul,adh]at p0 p1 p2 p3 p4 r0 r1 r2 r3 r4;obtain⟨Ax,nx,cx⟩:=xr;obtain⟨oo,hcx,vZ,-⟩:=id hx;simp only at oo hcx vZ;subst oo;have si:lE<=9223372036854775807:=by unfold abj at Ef;omega
 have ZL:cx<=9223372036854775807:=by unfold abj at vZ;omega
 have HX:=sh hx;have HA:=sh h;have gj:=sh (hp.old h);have jO:=sh (show b2∉S from by
  obtain⟨b9,o9,pO,O7,-⟩:=h2.at 0 (by simp);simp only[acx,adP,and_true]at pO;rw[pO.1];exact O7.1.2)
 obtain⟨fd,rv,-,hm,Ei,hd⟩:=hp.drop;have HD:=sh hd;have lh:=sh dN;have pY:=sh dL;have hol:R.length<=1000:=by have:=Nd.ey leaf R;omega
 have P0:=sh p0;have R0:=sh r0;have vM:=sh fun(W:AI) (hb:IT w.heap.size w W)=>kE hp (hp.below HA.out hb) _ leaf _ hr hs hσ;have Ae:=sh (show σ k1.child≠none by rw[hσ];simp);clear h2 hx h hd dN dL vZ Ef hr hs hσ;go_enter func223,ntmps223
 go_wp2_with fail
 refine(vM.out _ (((BY _ w).alloc (AS _) _).alloc (by simp) _)).mono ?_;rintro e w1 ⟨ar,A,c,rfl,aq⟩;obtain⟨mL,dy,gQ,nD⟩:=ow ar;obtain⟨g,rfl,Ky,ra,-,Bo,zQ⟩:=aq.full Th;simp at Ky;have ZK:c<=9223372036854775807:=by unfold abj at zQ;omega
 have v1:w1.cell? ⟨w.heap.size,1,none⟩=some (.bool leaf):=mL.cell 1;have v4:w1.cell? ⟨w.heap.size+1,4,none⟩=some (.int .i64 k1.child):=dy.cell 4;have l0:=mL.lt;have l1:=dy.lt;have X0:=sh mL;have dG:=sh gQ;have pW:=sh aq;have Ki:=sh (HD.out w1 S σ k _ (hp.below HA.out gQ) Ae.out);clear ar gQ mL dy aq p0 p1 p2 p3 p4 r0 r1 r2 r3 r4 zQ;go_wp2_with fail
 refine Ki.out.mono ?_;rintro e w2 ⟨rfl,S2,gI,cP,fH⟩;have ly:=sh ((ah.af dG.out S).trans cP);have tw:=sh (fH.mono dG.out.size);have YU:=sh (HX.out.carry ly.out tw.out);have Yo:=sh (((pW.out.apart (S:=S) (fun b hb=>by have:=gj.out b hb;simp;omega)).sub (T:=Cl 0 S) (fun b h _=>⟨abi _,h.2⟩)).carry cP fH);have bR:=cP.bk X0.out (fun hh=>by have:=gj.out _ hh;omega);have u1:w2.cell? ⟨w.heap.size,1,none⟩=some (.bool leaf):=bR.cell 1;have u2:w2.cell? ⟨w.heap.size,2,none⟩=some (.slice Ax L.length cx):=bR.cell 2;have l2:=bR.lt;have QD:=(ly.out.cell (p:=⟨b2,o2,none⟩) aC jO.out).trans P0.out;have Sz:=(ly.out.cell (p:=⟨b2,o2+5,none⟩) aC jO.out).trans R0.out;have kd:w.heap.size<=w2.heap.size:=ly.out.size;have pL:=sh QD;have gY:=sh Sz;have tp:=sh gI;have rl:=hp.old gI;have fX:=sh rl;have OT:=sh fun(W:AI) (hb:IT w2.heap.size w2 W)=>(show aaf prog 221 #[.slice (some ⟨g,0,none⟩) R.length c] W (iB R W) from
  mE ⟨some ⟨g,0,none⟩,R.length,c⟩ R (Cl 0 S2) W (Yo.out.below hb) (by omega) (by omega))
 have QE:0<R.length:=by omega
 have hLm:L.length<=1000:=by omega
 have hRm:R.length<=1000:=by omega
 clear gI cP fH bR QD Sz rl v1 v4 l0 l1;go_wp2_with fail
 refine(OT.out _ (BY _ _)).mono ?_;rintro e w3 ⟨aN,A3,c3,rfl,ax⟩;obtain⟨g3,rfl,El,ae4,-,ae5,Mm⟩:=ax.full QE;obtain⟨Pq,Gv⟩:=ax.Wp QE;obtain⟨ky3,Mu⟩:∃x,x=(R[0]'QE).key:=⟨_,rfl⟩;rw[<-Mu]at Pq;have jV:IT w2.heap.size w2 w3:=aN;have El:w2.heap.size<=g3:=El;have q5:=(jV.cell (p:=⟨b2,o2+5,none⟩) (by show b2<_;omega)).trans gY.out;have Eg:c3<=9223372036854775807:=by unfold abj at Mm;omega
 have fh:∃wx,IT w2.heap.size w2 wx/\ba wx w2.heap.size (.slice (some ⟨g3,0,none⟩) R.length c3) (Nd.first leaf k1.key R)/\wx=(if leaf then w3 else w3.setCell ⟨g3,0,none⟩ (.string k1.key)):=by
  cases leaf
  ·exact⟨_,jV.setCell (p:=⟨g3,0,none⟩) El _,ax.N7 QE _,rfl⟩
  ·exact⟨_,jV,ax,rfl⟩
 obtain⟨wx,Bi,GI,Rb⟩:=fh;obtain⟨R2,Bd⟩:∃R2,R2=Nd.first leaf k1.key R:=⟨_,rfl⟩;have Ee:R2.length=R.length:=by rw[Bd,Nd.ir]
 rw[<-Bd]at lh pY GI |-;rw[<-Ee]at GI;have jN:=sh Bi;have Ug:=sh GI;have YT:=sh Rb;have Uj:=sh Ee;have Ui:=sh Bd;have UT:0<R2.length:=by omega
 have aez:R2.length<=1000:=by omega
 clear aN ax jV Bi GI Rb Bd Ee Mm Mu;cases leaf
 all_goals
  go_wp2_with fail
  have M6:=YT.out;simp only[adg,if_false,if_true]at M6;rw[<-M6];clear M6 q5 Pq Gv;have q0:wx.cell? ⟨b2,o2,none⟩=some (.string k0.key):=(jN.out.cell (p:=⟨b2,o2,none⟩) (by show b2<_;omega)).trans pL.out;have Md:b2<wx.heap.size:=by have:=jN.out.size;omega
  have Yb:=sh (YU.out.below jN.out);have K8:=sh (Ug.out.apart (S:=S2) fX.out);have hgx:g3<wx.heap.size:=(Ug.out.full UT).elim fun _ h=>by have:=h.2.2.1;have e:=h.1;simp at e;omega
  rw[Uj.out]at K8;have tu:=sh (show ∀b∈S2,b<wx.heap.size from fun b hb=>aal (fX.out b hb) jN.out.size);have Ad:=sh (show aaf prog 224 #[.slice (some ⟨wx.heap.size,0,none⟩) 2 2] (wx.alloc (.cells #[.slice Ax L.length cx,.slice (some ⟨g3,0,none⟩) R.length c3] 174)).drew (iB (L++R2) (wx.alloc (.cells #[.slice Ax L.length cx,.slice (some ⟨g3,0,none⟩) R.length c3] 174)).drew) from by
   have hk:=(Bk.new wx 174 #[.slice Ax L.length cx,.slice (some ⟨g3,0,none⟩) R.length c3]).drew;have gJ:IT wx.heap.size wx (wx.alloc (.cells #[.slice Ax L.length cx,.slice (some ⟨g3,0,none⟩) R.length c3] 174)).drew:=((BY _ _).alloc (AS _) _).drew;have hz:=ko ⟨some ⟨wx.heap.size,0,none⟩,2,2⟩ [L,R2] (Cl 0 S2) _ (ve hk ⟨abi _,fun hh=>by have:=tu.out _ hh;omega⟩ (Yb.out.below gJ) ((K8.out.sub (T:=Cl 0 S2) (fun b h _=>⟨abi _,h.2⟩)).below gJ)) (by simp;omega) (by simp;omega) (by simp);simpa using hz)
  have bD:=sh (show ∀W:AI,IT wx.heap.size wx W->W.cell? ⟨b2,o2,none⟩=some (.string k0.key)/\IT wx.heap.size wx W from fun W hb=>⟨(hb.cell (p:=⟨b2,o2,none⟩) Md).trans q0,hb⟩);have lj:=sh (show IT wx.heap.size wx wx.drew from (BY _ _).drew);have gJ:=sh (show IT wx.heap.size wx (wx.alloc (.cells #[.slice Ax L.length cx,.slice (some ⟨g3,0,none⟩) R.length c3] 174)).drew from ((BY _ _).alloc (AS _) _).drew);have An:=sh fun(W:AI) (A:Option Addr) (c:Nat) (B:Nat) (aq:ba W B (.slice A (L++R2).length c) (L++R2)) (hB:wx.heap.size<=B) (hb:IT wx.heap.size wx W)=>(show aaf prog 162 #[.string k0.key,.bool _,.slice A (L.length+R2.length) c] W (mz 0 S2 (Tr.ck k0.key _ (L++R2)) W) from by
   rw[<-AT];exact iz k0.key _ ⟨A,(L++R2).length,c⟩ (L++R2) 0 S2 W (aq.as.sub (fun b h1 _=>⟨abi _,fun hh=>by have:=tu.out b hh;omega⟩)) (fun b hh=>aal (tu.out b hh) hb.size) (abi _) lh.out pY.out)
  go_region_held3 (fun W=>W.cell? ⟨b2,o2,none⟩=some (.string k0.key)/\IT wx.heap.size wx W) (first|(with_reducible exact bD.out _ lj.out)|(with_reducible exact bD.out _ gJ.out)|(with_reducible exact bD.out _ jW)|(with_reducible exact bD.out _ lP)) (first
   | (go_at_call 224;(with_reducible refine Ad.out.mono ?_);rintro e w6 ⟨ga,A6,c6,rfl,cQ⟩;have lP:=gJ.out.trans (ga.mono gJ.out.size))
   | (go_at_call 162;(with_reducible refine(An.out _ _ _ _ cQ gJ.out.size lP).mono ?_);rintro e w7 ⟨sS,r7,rfl,BB⟩;have jW:=lP.trans (sS.mono lP.size)))
  all_goals
   have bF:ah S w w7:=ly.out.then ((ah.af jN.out S2).trans (ah.af jW S2)) tw.out;have bX:=sh (show gw p S (Tr.cY σ k1.child none) k (Tr.ck k0.key _ (L++Nd.first _ k1.key R)) w (.returned (.tuple #[.slice r7.A r7.n r7.c,.int .i64 0])) w7 from by
    rw[<-Ui.out];exact⟨S2,r7,rfl,BB,hp.below tp.out (jN.out.trans (jW.mono jN.out.size)),bF,tw.out⟩)
   clear ga cQ lP sS BB jW bF;go_wp2_with fail
   go_ret2
   exact bX.out
theorem BW{p:ay}(hp:cR p){w:AI}{S:List Nat}{σ :ag}{k:Nat}(h:p.At w S σ k)(leaf:Bool)(k0 k1:Ce)(A2:Option Addr)(lE:Nat)(h2:aW w (Cl 0 S) ⟨A2,2,lE⟩ [k0,k1])(vB:ByteArray)(xr:Rw)(L R:List Ce)(hx:aW w (Cl 0 S) xr R)
  (hσ : σ k0.child=some ⟨if leaf then 1 else 2,Nd.str leaf L⟩) (hr:Nd.right leaf L=true) (hs:Nd.sum leaf L<=488)
  (Dl:0<R.length) (Th:0<L.length) (M7:R.length<=1000) (dN:∀c∈L++Nd.first leaf k1.key R,Nd.aL leaf c=true) (dL:Nd.sum leaf (L++Nd.first leaf k1.key R)<=750):
  aaf prog 223 #[.iface p.T p.v,.slice A2 2 lE,.int .i64 1,.agg #[.string vB,.bool leaf,.slice xr.A xr.n xr.c]] w
   (gw p S (Tr.cY σ k0.child none) k (Tr.ck k0.key leaf (L++Nd.first leaf k1.key R)) w):=by
 obtain⟨b2,o2,c2,Gp,aC,-,Ef⟩:=h2.some (by simp);injection Gp with e1 e2 e3;subst e1 e3;obtain⟨b',o',na,-,p0,p1,p2,p3,p4⟩:=h2.at 0 (by simp);obtain⟨b'',o'',Bc,-,r0,r1,r2,r3,r4⟩:=h2.at 1 (by simp);simp only[acx,adP,and_true]at na Bc;obtain⟨rfl,rfl⟩:=na;obtain⟨rfl,rfl⟩:=Bc;simp only[acQ,List.getElem_cons_succ,adA,Nat.one_mul,adh]at p0 p1 p2 p3 p4 r0 r1 r2 r3 r4;obtain⟨bx,ox,cx,rfl,Xi,hcx,vZ⟩:=hx.some Dl;have si:lE<=9223372036854775807:=by unfold abj at Ef;omega
 have ZL:cx<=9223372036854775807:=by unfold abj at vZ;omega
 have HX:=sh hx;have HA:=sh h;have gj:=sh (hp.old h);have jO:=sh (show b2∉S from by
  obtain⟨b9,o9,pO,O7,-⟩:=h2.at 0 (by simp);simp only[acx,adP,and_true]at pO;rw[pO.1];exact O7.1.2)
 obtain⟨fd,rv,-,hm,Ei,hd⟩:=hp.drop;have HD:=sh hd;have lh:=sh dN;have pY:=sh dL;have hol:L.length<=1000:=by have:=Nd.ey leaf L;omega
 have P0:=sh p0;have R0:=sh r0;have vM:=sh fun(W:AI) (hb:IT w.heap.size w W)=>kE hp (hp.below HA.out hb) _ leaf _ hr hs hσ;have Ae:=sh (show σ k0.child≠none by rw[hσ];simp);clear h2 hx h hd dN dL vZ Ef hr hs hσ;go_enter func223,ntmps223
 go_wp2_with fail
 refine(vM.out _ (((BY _ w).alloc (AS _) _).alloc (by simp) _)).mono ?_;rintro e w1 ⟨ar,A,c,rfl,aq⟩;obtain⟨mL,dy,gQ,nD⟩:=ow ar;obtain⟨g,rfl,Ky,ra,-,Bo,zQ⟩:=aq.full Th;simp at Ky;have ZK:c<=9223372036854775807:=by unfold abj at zQ;omega
 have v1:w1.cell? ⟨w.heap.size,1,none⟩=some (.bool leaf):=mL.cell 1;have v4:w1.cell? ⟨w.heap.size+1,4,none⟩=some (.int .i64 k0.child):=dy.cell 4;have l0:=mL.lt;have l1:=dy.lt;have X0:=sh mL;have dG:=sh gQ;have pW:=sh aq;have Ki:=sh (HD.out w1 S σ k _ (hp.below HA.out gQ) Ae.out);clear ar gQ mL dy aq p0 p1 p2 p3 p4 r0 r1 r2 r3 r4 zQ;go_wp2_with fail
 refine Ki.out.mono ?_;rintro e w2 ⟨rfl,S2,gI,cP,fH⟩;have ly:=sh ((ah.af dG.out S).trans cP);have tw:=sh (fH.mono dG.out.size);have YU:=sh (HX.out.carry ly.out tw.out);have Yo:=sh (((pW.out.apart (S:=S) (fun b hb=>by have:=gj.out b hb;simp;omega)).sub (T:=Cl 0 S) (fun b h _=>⟨abi _,h.2⟩)).carry cP fH);have bR:=cP.bk X0.out (fun hh=>by have:=gj.out _ hh;omega);have u1:w2.cell? ⟨w.heap.size,1,none⟩=some (.bool leaf):=bR.cell 1;have u2:w2.cell? ⟨w.heap.size,2,none⟩=some (.slice (some ⟨bx,ox,none⟩) R.length cx):=bR.cell 2;have l2:=bR.lt;have QD:=(ly.out.cell (p:=⟨b2,o2,none⟩) aC jO.out).trans P0.out;have Sz:=(ly.out.cell (p:=⟨b2,o2+5,none⟩) aC jO.out).trans R0.out;have kd:w.heap.size<=w2.heap.size:=ly.out.size;have pL:=sh QD;have gY:=sh Sz;have tp:=sh gI;have rl:=hp.old gI;have fX:=sh rl;have OT:=sh fun(W:AI) (hb:IT w2.heap.size w2 W)=>(show aaf prog 221 #[.slice (some ⟨bx,ox,none⟩) R.length cx] W (iB R W) from
  mE ⟨some ⟨bx,ox,none⟩,R.length,cx⟩ R (Cl 0 S2) W (YU.out.below hb) (by omega) (by omega))
 have QH:g<w2.heap.size:=by have:=cP.size;omega
 have Sy:0<L.length:=by omega
 have QE:0<R.length:=by omega
 have hLm:L.length<=1000:=by omega
 have hRm:R.length<=1000:=by omega
 clear gI cP fH bR QD Sz rl v1 v4 l0 l1;go_wp2_with fail
 go_quiet (fail)
 go_wp2_with fail
 refine(OT.out _ (below_drewN (BY _ _) _)).mono ?_;rintro e w3 ⟨aN,A3,c3,rfl,ax⟩;obtain⟨g3,rfl,El,ae4,-,ae5,Mm⟩:=ax.full QE;obtain⟨Pq,Gv⟩:=ax.Wp QE;obtain⟨ky3,Mu⟩:∃x,x=(R[0]'QE).key:=⟨_,rfl⟩;rw[<-Mu]at Pq;have jV:IT w2.heap.size w2 w3:=(below_drewN (BY _ w2) _).trans aN;have El:w2.heap.size<=g3:=El;have q5:=(jV.cell (p:=⟨b2,o2+5,none⟩) (by show b2<_;omega)).trans gY.out;have Eg:c3<=9223372036854775807:=by unfold abj at Mm;omega
 have fh:∃wx,IT w2.heap.size w2 wx/\ba wx w2.heap.size (.slice (some ⟨g3,0,none⟩) R.length c3) (Nd.first leaf k1.key R)/\wx=(if leaf then w3 else w3.setCell ⟨g3,0,none⟩ (.string k1.key)):=by
  cases leaf
  ·exact⟨_,jV.setCell (p:=⟨g3,0,none⟩) El _,ax.N7 QE _,rfl⟩
  ·exact⟨_,jV,ax,rfl⟩
 obtain⟨wx,Bi,GI,Rb⟩:=fh;obtain⟨R2,Bd⟩:∃R2,R2=Nd.first leaf k1.key R:=⟨_,rfl⟩;have Ee:R2.length=R.length:=by rw[Bd,Nd.ir]
 rw[<-Bd]at lh pY GI |-;rw[<-Ee]at GI;have jN:=sh Bi;have Ug:=sh GI;have YT:=sh Rb;have Uj:=sh Ee;have Ui:=sh Bd;have UT:0<R2.length:=by omega
 have aez:R2.length<=1000:=by omega
 clear aN ax jV Bi GI Rb Bd Ee Mm Mu;cases leaf
 all_goals
  go_wp2_with fail
  have M6:=YT.out;simp only[adg,if_false,if_true]at M6;rw[<-M6];clear M6 q5 Pq Gv;have q0:wx.cell? ⟨b2,o2,none⟩=some (.string k0.key):=(jN.out.cell (p:=⟨b2,o2,none⟩) (by show b2<_;omega)).trans pL.out;have Md:b2<wx.heap.size:=by have:=jN.out.size;omega
  have Yb:=sh (Yo.out.below jN.out);have K8:=sh (Ug.out.apart (S:=S2) fX.out);have hgx:g3<wx.heap.size:=(Ug.out.full UT).elim fun _ h=>by have:=h.2.2.1;have e:=h.1;simp at e;omega
  have hlx:g<wx.heap.size:=by have:=jN.out.size;omega
  rw[Uj.out]at K8;have tu:=sh (show ∀b∈S2,b<wx.heap.size from fun b hb=>aal (fX.out b hb) jN.out.size);have Ad:=sh (show aaf prog 224 #[.slice (some ⟨wx.heap.size,0,none⟩) 2 2] (wx.alloc (.cells #[.slice (some ⟨g,0,none⟩) L.length c,.slice (some ⟨g3,0,none⟩) R.length c3] 174)).drew (iB (L++R2) (wx.alloc (.cells #[.slice (some ⟨g,0,none⟩) L.length c,.slice (some ⟨g3,0,none⟩) R.length c3] 174)).drew) from by
   have hk:=(Bk.new wx 174 #[.slice (some ⟨g,0,none⟩) L.length c,.slice (some ⟨g3,0,none⟩) R.length c3]).drew;have gJ:IT wx.heap.size wx (wx.alloc (.cells #[.slice (some ⟨g,0,none⟩) L.length c,.slice (some ⟨g3,0,none⟩) R.length c3] 174)).drew:=((BY _ _).alloc (AS _) _).drew;have hz:=ko ⟨some ⟨wx.heap.size,0,none⟩,2,2⟩ [L,R2] (Cl 0 S2) _ (ve hk ⟨abi _,fun hh=>by have:=tu.out _ hh;omega⟩ (Yb.out.below gJ) ((K8.out.sub (T:=Cl 0 S2) (fun b h _=>⟨abi _,h.2⟩)).below gJ)) (by simp;omega) (by simp;omega) (by simp);simpa using hz)
  have bD:=sh (show ∀W:AI,IT wx.heap.size wx W->W.cell? ⟨b2,o2,none⟩=some (.string k0.key)/\IT wx.heap.size wx W from fun W hb=>⟨(hb.cell (p:=⟨b2,o2,none⟩) Md).trans q0,hb⟩);have lj:=sh (show IT wx.heap.size wx wx.drew from (BY _ _).drew);have gJ:=sh (show IT wx.heap.size wx (wx.alloc (.cells #[.slice (some ⟨g,0,none⟩) L.length c,.slice (some ⟨g3,0,none⟩) R.length c3] 174)).drew from ((BY _ _).alloc (AS _) _).drew);have An:=sh fun(W:AI) (A:Option Addr) (c:Nat) (B:Nat) (aq:ba W B (.slice A (L++R2).length c) (L++R2)) (hB:wx.heap.size<=B) (hb:IT wx.heap.size wx W)=>(show aaf prog 162 #[.string k0.key,.bool _,.slice A (L.length+R2.length) c] W (mz 0 S2 (Tr.ck k0.key _ (L++R2)) W) from by
   rw[<-AT];exact iz k0.key _ ⟨A,(L++R2).length,c⟩ (L++R2) 0 S2 W (aq.as.sub (fun b h1 _=>⟨abi _,fun hh=>by have:=tu.out b hh;omega⟩)) (fun b hh=>aal (tu.out b hh) hb.size) (abi _) lh.out pY.out)
  go_region_held3 (fun W=>W.cell? ⟨b2,o2,none⟩=some (.string k0.key)/\IT wx.heap.size wx W) (first|(with_reducible exact bD.out _ lj.out)|(with_reducible exact bD.out _ gJ.out)|(with_reducible exact bD.out _ jW)|(with_reducible exact bD.out _ lP)) (first
   | (go_at_call 224;(with_reducible refine Ad.out.mono ?_);rintro e w6 ⟨ga,A6,c6,rfl,cQ⟩;have lP:=gJ.out.trans (ga.mono gJ.out.size))
   | (go_at_call 162;(with_reducible refine(An.out _ _ _ _ cQ gJ.out.size lP).mono ?_);rintro e w7 ⟨sS,r7,rfl,BB⟩;have jW:=lP.trans (sS.mono lP.size)))
  all_goals
   have bF:ah S w w7:=ly.out.then ((ah.af jN.out S2).trans (ah.af jW S2)) tw.out;have bX:=sh (show gw p S (Tr.cY σ k0.child none) k (Tr.ck k0.key _ (L++Nd.first _ k1.key R)) w (.returned (.tuple #[.slice r7.A r7.n r7.c,.int .i64 0])) w7 from by
    rw[<-Ui.out];exact⟨S2,r7,rfl,BB,hp.below tp.out (jN.out.trans (jW.mono jN.out.size)),bF,tw.out⟩)
   clear ga cQ lP sS BB jW bF;go_wp2_with fail
   go_ret2
   exact bX.out
theorem BV{p:ay}(hp:cR p){w:AI}{S:List Nat}{σ :ag}{k:Nat}(h:p.At w S σ k)(k0 k1:Ce)(A2:Option Addr)(lE:Nat)(h2:aW w (Cl 0 S) ⟨A2,2,lE⟩ [k0,k1])(vB:ByteArray)(xr:Rw)(L:List Ce)(hx:aW w (Cl 0 S) xr [])
  (hσ : σ k0.child=some ⟨1,Nd.str true L⟩) (hr:Nd.right true L=true) (hs:Nd.sum true L<=488)
  (Th:0<L.length) (dN:∀c∈L,Nd.aL true c=true) (dL:Nd.sum true L<=750):
  aaf prog 223 #[.iface p.T p.v,.slice A2 2 lE,.int .i64 1,.agg #[.string vB,.bool true,.slice xr.A xr.n xr.c]] w
   (gw p S (Tr.cY σ k0.child none) k (Tr.ck k0.key true L) w):=by
 obtain⟨b2,o2,c2,Gp,aC,-,Ef⟩:=h2.some (by simp);injection Gp with e1 e2 e3;subst e1 e3;obtain⟨b',o',na,-,p0,p1,p2,p3,p4⟩:=h2.at 0 (by simp);obtain⟨b'',o'',Bc,-,r0,r1,r2,r3,r4⟩:=h2.at 1 (by simp);simp only[acx,adP,and_true]at na Bc;obtain⟨rfl,rfl⟩:=na;obtain⟨rfl,rfl⟩:=Bc;simp only[acQ,List.getElem_cons_succ,adA,Nat.one_mul,adh]at p0 p1 p2 p3 p4 r0 r1 r2 r3 r4;obtain⟨Ax,nx,cx⟩:=xr;obtain⟨oo,hcx,vZ,-⟩:=id hx;simp only[List.length_nil]at oo hcx vZ;subst oo;have si:lE<=9223372036854775807:=by unfold abj at Ef;omega
 have ZL:cx<=9223372036854775807:=by unfold abj at vZ;omega
 have HX:=sh hx;have HA:=sh h;have gj:=sh (hp.old h);have jO:=sh (show b2∉S from by
  obtain⟨b9,o9,pO,O7,-⟩:=h2.at 0 (by simp);simp only[acx,adP,and_true]at pO;rw[pO.1];exact O7.1.2)
 obtain⟨fd,rv,-,hm,Ei,hd⟩:=hp.drop;have HD:=sh hd;have lh:=sh dN;have pY:=sh dL;have hol:L.length<=1000:=by have:=Nd.ey true L;omega
 have P0:=sh p0;have R0:=sh r0;have vM:=sh fun(W:AI) (hb:IT w.heap.size w W)=>kE hp (hp.below HA.out hb) _ true _ hr hs hσ;have Ae:=sh (show σ k0.child≠none by rw[hσ];simp);clear h2 hx h hd dN dL vZ Ef hr hs hσ;go_enter func223,ntmps223
 go_wp2_with fail
 refine(vM.out _ (((BY _ w).alloc (AS _) _).alloc (by simp) _)).mono ?_;rintro e w1 ⟨ar,A,c,rfl,aq⟩;obtain⟨mL,dy,gQ,nD⟩:=ow ar;obtain⟨g,rfl,Ky,ra,-,Bo,zQ⟩:=aq.full Th;simp at Ky;have ZK:c<=9223372036854775807:=by unfold abj at zQ;omega
 have v1:w1.cell? ⟨w.heap.size,1,none⟩=some (.bool true):=mL.cell 1;have v4:w1.cell? ⟨w.heap.size+1,4,none⟩=some (.int .i64 k0.child):=dy.cell 4;have l0:=mL.lt;have l1:=dy.lt;have X0:=sh mL;have dG:=sh gQ;have pW:=sh aq;have Ki:=sh (HD.out w1 S σ k _ (hp.below HA.out gQ) Ae.out);clear ar gQ mL dy aq p0 p1 p2 p3 p4 r0 r1 r2 r3 r4 zQ;go_wp2_with fail
 refine Ki.out.mono ?_;rintro e w2 ⟨rfl,S2,gI,cP,fH⟩;have ly:=sh ((ah.af dG.out S).trans cP);have tw:=sh (fH.mono dG.out.size);have YU:=sh (HX.out.carry ly.out tw.out);have Yo:=sh (((pW.out.apart (S:=S) (fun b hb=>by have:=gj.out b hb;simp;omega)).sub (T:=Cl 0 S) (fun b h _=>⟨abi _,h.2⟩)).carry cP fH);have bR:=cP.bk X0.out (fun hh=>by have:=gj.out _ hh;omega);have u1:w2.cell? ⟨w.heap.size,1,none⟩=some (.bool true):=bR.cell 1;have u2:w2.cell? ⟨w.heap.size,2,none⟩=some (.slice Ax 0 cx):=bR.cell 2;have l2:=bR.lt;have QD:=(ly.out.cell (p:=⟨b2,o2,none⟩) aC jO.out).trans P0.out;have Sz:=(ly.out.cell (p:=⟨b2,o2+5,none⟩) aC jO.out).trans R0.out;have kd:w.heap.size<=w2.heap.size:=ly.out.size;have pL:=sh QD;have gY:=sh Sz;have tp:=sh gI;have rl:=hp.old gI;have fX:=sh rl;have OT:=sh fun(W:AI) (hb:IT w2.heap.size w2 W)=>DQ ⟨Ax,0,cx⟩ (Cl 0 S2) W (YU.out.below hb);have QH:g<w2.heap.size:=by have:=cP.size;omega
 have Sy:0<L.length:=by omega
 have hLm:L.length<=1000:=by omega
 clear gI cP fH bR QD Sz rl v1 v4 l0 l1;go_wp2_with fail
 go_quiet (fail)
 go_wp2_with fail
 refine(OT.out _ (below_drewN (BY _ _) _)).mono ?_;rintro e wx ⟨aN,A3,c3,rfl,ax⟩;have jV:IT w2.heap.size w2 wx:=(below_drewN (BY _ w2) _).trans aN;have jN:=sh jV;have Eg:c3<=9223372036854775807:=by
  obtain⟨A',c',hv,-,cI⟩:=aV ax;injection hv with _ _ e3;subst e3;unfold abj at cI;exact cI
 have K8:=sh (show aW wx (Cl 0 S2) ⟨A3,0,c3⟩ [] from ⟨rfl,abi _,by unfold abj;exact Eg,fun i d hd=>by simp at hd⟩);clear aN ax jV;go_wp2_with fail
 all_goals
  have q0:wx.cell? ⟨b2,o2,none⟩=some (.string k0.key):=(jN.out.cell (p:=⟨b2,o2,none⟩) (by show b2<_;omega)).trans pL.out;have Md:b2<wx.heap.size:=by have:=jN.out.size;omega
  have Yb:=sh (Yo.out.below jN.out);have hlx:g<wx.heap.size:=by have:=jN.out.size;omega
  have tu:=sh (show ∀b∈S2,b<wx.heap.size from fun b hb=>aal (fX.out b hb) jN.out.size);have Ad:=sh (show aaf prog 224 #[.slice (some ⟨wx.heap.size,0,none⟩) 2 2] (wx.alloc (.cells #[.slice (some ⟨g,0,none⟩) L.length c,.slice A3 0 c3] 174)).drew (iB L (wx.alloc (.cells #[.slice (some ⟨g,0,none⟩) L.length c,.slice A3 0 c3] 174)).drew) from by
   have hk:=(Bk.new wx 174 #[.slice (some ⟨g,0,none⟩) L.length c,.slice A3 0 c3]).drew;have gJ:IT wx.heap.size wx (wx.alloc (.cells #[.slice (some ⟨g,0,none⟩) L.length c,.slice A3 0 c3] 174)).drew:=((BY _ _).alloc (AS _) _).drew;have hz:=ko ⟨some ⟨wx.heap.size,0,none⟩,2,2⟩ [L,[]] (Cl 0 S2) _ (ve hk ⟨abi _,fun hh=>by have:=tu.out _ hh;omega⟩ (Yb.out.below gJ) (K8.out.below gJ)) (by simp;omega) (by simp;omega) (by simp);simpa using hz)
  have bD:=sh (show ∀W:AI,IT wx.heap.size wx W->W.cell? ⟨b2,o2,none⟩=some (.string k0.key)/\IT wx.heap.size wx W from fun W hb=>⟨(hb.cell (p:=⟨b2,o2,none⟩) Md).trans q0,hb⟩);have lj:=sh (show IT wx.heap.size wx wx.drew from (BY _ _).drew);have gJ:=sh (show IT wx.heap.size wx (wx.alloc (.cells #[.slice (some ⟨g,0,none⟩) L.length c,.slice A3 0 c3] 174)).drew from ((BY _ _).alloc (AS _) _).drew);have An:=sh fun(W:AI) (A:Option Addr) (c:Nat) (B:Nat) (aq:ba W B (.slice A L.length c) L) (hB:wx.heap.size<=B) (hb:IT wx.heap.size wx W)=>(show aaf prog 162 #[.string k0.key,.bool true,.slice A (L.length) c] W (mz 0 S2 (Tr.ck k0.key true L) W) from by
   exact iz k0.key true ⟨A,L.length,c⟩ L 0 S2 W (aq.as.sub (fun b h1 _=>⟨abi _,fun hh=>by have:=tu.out b hh;omega⟩)) (fun b hh=>aal (tu.out b hh) hb.size) (abi _) lh.out pY.out)
  go_region_held3 (fun W=>W.cell? ⟨b2,o2,none⟩=some (.string k0.key)/\IT wx.heap.size wx W) (first|(with_reducible exact bD.out _ lj.out)|(with_reducible exact bD.out _ gJ.out)|(with_reducible exact bD.out _ jW)|(with_reducible exact bD.out _ lP)) (first
   | (go_at_call 224;(with_reducible refine Ad.out.mono ?_);rintro e w6 ⟨ga,A6,c6,rfl,cQ⟩;have lP:=gJ.out.trans (ga.mono gJ.out.size))
   | (go_at_call 162;(with_reducible refine(An.out _ _ _ _ cQ gJ.out.size lP).mono ?_);rintro e w7 ⟨sS,r7,rfl,BB⟩;have jW:=lP.trans (sS.mono lP.size)))
  all_goals
   have bF:ah S w w7:=ly.out.then ((ah.af jN.out S2).trans (ah.af jW S2)) tw.out;have bX:=sh (show gw p S (Tr.cY σ k0.child none) k (Tr.ck k0.key true L) w (.returned (.tuple #[.slice r7.A r7.n r7.c,.int .i64 0])) w7 from by
    exact⟨S2,r7,rfl,BB,hp.below tp.out (jN.out.trans (jW.mono jN.out.size)),bF,tw.out⟩)
   clear ga cQ lP sS BB jW bF;go_wp2_with fail
   go_ret2
   exact bX.out
theorem ET{p:ay}(hp:cR p){w:AI}{S:List Nat}{σ :ag}{k:Nat}(h:p.At w S σ k)(leaf:Bool)(k0 k1:Ce)(A2:Option Addr)(lE:Nat)(h2:aW w (Cl 0 S) ⟨A2,2,lE⟩ [k0,k1])(vB:ByteArray)(xr:Rw)(L R:List Ce)(hx:aW w (Cl 0 S) xr R)
  (hσ : σ k0.child=some ⟨if leaf then 1 else 2,Nd.str leaf L⟩) (hr:Nd.right leaf L=true) (hs:Nd.sum leaf L<=488)
  (Dl:leaf=false->0<R.length) (Th:0<L.length) (M7:R.length<=1000) (dN:∀c∈L++Nd.first leaf k1.key R,Nd.aL leaf c=true) (dL:Nd.sum leaf (L++Nd.first leaf k1.key R)<=750):
  aaf prog 223 #[.iface p.T p.v,.slice A2 2 lE,.int .i64 1,.agg #[.string vB,.bool leaf,.slice xr.A xr.n xr.c]] w
   (gw p S (Tr.cY σ k0.child none) k (Tr.ck k0.key leaf (L++Nd.first leaf k1.key R)) w):=by
 by_cases hR:0<R.length
 ·exact BW hp h leaf k0 k1 A2 lE h2 vB xr L R hx hσ hr hs hR Th M7 dN dL
 ·have e:R=[]:=List.eq_nil_of_length_eq_zero (by omega)
  subst e;cases leaf with
  | false=>exact absurd (Dl rfl) hR
  | true=>
   have e2:Nd.first true k1.key []=[]:=rfl;rw[e2,List.append_nil]at dN dL |-;exact BV hp h k0 k1 A2 lE h2 vB xr L hx hσ hr hs Th dN dL
def yt (p:ay) (S:List Nat) (σ :ag) (k B:Nat) (X:List Nat) (l fl:List En) (w:AI) (e:Ending) (w':AI):Prop:=
 ∃(A':Option Addr) (c':Nat) (σ':ag) (S' U:List Nat),e= .returned (.tuple #[.slice A' fl.length c',.int .i64 0])/\aW w' (Cl 0 S') ⟨A',fl.length,c'⟩ (fl.map (·.cell))/\
   Tr.Moved σ (l.flatMap (·.aa)++X) σ' (fl.flatMap (·.aa))/\(∀e∈fl,Tr.eI σ' e)/\p.At w' S' σ' k/\ah U w w'/\(∀g∈U,g∈S\/B<=g)/\aj w S S'
def Tr.Has (iK:Bool) (key:ByteArray) (l:List En):Prop:=iK=true->∃e∈l,e.cell.key=key
theorem Tr.Has.PC{σ :ag}{iK:Bool}{key:ByteArray}{d:Nat}{ks A C:List Kd}{kj:Kd}(h:Tr.Has iK key (ks.flatMap (·.L)))(hs:ks=A++[kj]++C)(hB:Tr.Kids σ d ks)(hC:∀c∈C,Nd.lt key c.key=true)(hle:Nd.lt key kj.key=false):Tr.Has iK key kj.L:=fun hm=>by
 obtain⟨e,he,hk⟩:=h hm;obtain⟨k,jI,ZT⟩:=abr.1 he;have j5:=hB.sep;rw[hs,abI,abI,Tr.eT,Tr.eT]at j5;obtain⟨⟨sA,sM,sAM⟩,sC,sMC⟩:=j5;rw[hs]at jI;rcases By.1 jI with jI|jI
 ·rcases By.1 jI with jI|jI
  ·have h1:=sAM k.rg (abO jI) kj.rg (by simp) e ZT
   rw[show kj.rg.1=kj.key from rfl,hk,hle]at h1;cases h1
  ·rw[List.mem_singleton]at jI
   subst jI;exact⟨e,ZT,hk⟩
 ·have h1:=sC.2 k.rg (abO jI) e ZT
  rw[show k.rg.1=k.key from rfl,hk,hC k jI]at h1;cases h1
structure pV (p:ay) (fc:Nat) (dx:Array Value) (w0:AI) (S0:List Nat) (σ0:ag) (X:List Nat) (iK:Bool) (key:ByteArray) (f:List En->List En):Prop where
 enter:∀args W,Sem.run prog (callFunc fc args) W= .ok (.enter fc args) W
 DX:∀(w:AI) (S:List Nat) (σ :ag) (k:Nat) (l:List En) (A:Option Addr) (c:Nat) (B:Nat),ah S0 w0 w->aj w0 S0 S->p.At w S σ k->Tr.bj l->Tr.Has iK key l->(∀e∈l,Tr.eI σ e)->(l.flatMap (·.aa)++X).Nodup->(∀n∈X,σ n= σ0 n)->
  ba w B (.slice A l.length c) (l.map (·.cell))->w0.heap.size<=B->(∀g,aaT (.slice A l.length c)=some g->g∉S)->B<=w.heap.size->l.length<=500->
  aaf prog fc (#[.slice A l.length c]++dx) w (yt p S σ k B X l (f l) w)
def KL (p:ay) (S:List Nat) (σ :ag) (k d:Nat) (key:ByteArray) (Q:List Nat) (L:List En) (w:AI) (e:Ending) (w':AI):Prop:=
 ∃(r:Rw) (ps:List Pt) (xs:List Tr.Pd) (P':List Nat) (σ':ag) (S':List Nat) (k':Nat),e= .returned (.tuple #[.slice r.A r.n r.c,.int .i64 0])/\gF w' (Cl 0 S') r ps/\Tr.Parts σ' d key ps P' L xs/\Tr.Moved σ Q σ' P'/\p.At w' S' σ' k'/\k<=k'+2*d/\ah S w w'/\aj w S S'
theorem Tr.Moved.uQ{σ σ':ag}{n:Nat}{Q P':List Nat}(h:Tr.Moved (Tr.cY σ n none) Q σ' P')(hQ:∀m∈Q,σ m≠none)(hn: σ n≠none)(bI:Q.Nodup)(Tg:n∉Q):Tr.Moved σ (n::Q) σ' P':=by
 have f1:=(Tr.Moved.drop σ n).frame hQ bI (fun m hm=>by simp;rintro rfl;exact Tg hm);exact f1.trans h
theorem Tr.aE.uQ{c:Nat}{σ σ':ag}{n:Nat}{Q P':List Nat}(h:Tr.aE c (Tr.cY σ n none) Q σ' P')(hQ:∀m∈Q,σ m≠none)(hn: σ n≠none)(bI:Q.Nodup)(Tg:n∉Q):Tr.aE c σ (n::Q) σ' P':=by
 have f1:=(Tr.aE.drop σ n).frame hQ bI (fun m hm=>by simp;rintro rfl;exact Tg hm);exact(f1.trans h).more (by omega)
theorem Iw{p:ay}(hp:cR p){fc:Nat}{dx:Array Value}{w0:AI}{S0:List Nat}{σ0:ag}{X:List Nat}{f:List En->List En}{iK:Bool}(key:ByteArray)(hf:Tr.eJ key f)(yZ:pV p fc dx w0 S0 σ0 X iK key f)
  {w:AI} {S:List Nat} {σ :ag} {k:Nat} (h:p.At w S σ k) (h0:ah S0 w0 w) (h1:aj w0 S0 S) (no:Nat) (qq:ByteArray) (depth:Nat) {P:List Nat} {L:List En} (aX:Tr.aD σ 0 no P L) (bI:(P++X).Nodup) (hX:∀n∈X,σ n= σ0 n/\ σ n≠none)
  (um:∀e∈L,Nd.lt e.cell.key qq=false) (eV:Nd.lt key qq=false) (oW:Tr.Has iK key L) (Z5:qq.size<=120) (oV:depth<=10):
  aaf prog 163 #[.iface p.T p.v,.int .i64 no,.string qq,.string key,.func (.func fc) #[] dx,.int .i64 depth] w (KL p S σ k 0 qq (P++X) (f L) w):=by
 obtain⟨cs,P',rfl,g1,g2,g3,g4,g5,g6,-⟩:=aX;have o5:=g4.right;have cZ:=Nd.ey true cs;obtain⟨q1,q2,q3,q4⟩:=id g4;subst q1;rw[IS]at cZ;have Sy:L.length<=500:=by have:Nd.sum true (L.map (·.cell))<=488:=g5;omega
 have vM:=sh (kE hp h no true _ o5.1 g5 g3);have vI: σ no≠none:=by rw[g3];simp
 obtain⟨fd,rv,-,hm,Ei,hd⟩:=hp.drop;have Ew:no∉P'++X:=(abJ.1 (by simpa using bI)).1;have Eu:(P'++X).Nodup:=(abJ.1 (by simpa using bI)).2;have jB:∀m∈P'++X,σ m≠none:=fun m hm=>by
  rcases By.1 hm with hm|hm
  ·exact(g4.mem m hm).2.2
  ·exact(hX m hm).2
 have HA:=sh h;have gj:=sh (hp.old h);have z0:decide ((10:Int)<(depth:Int))=false:=decide_eq_false (by omega);have he:=yZ.enter;have HD:=sh hd;have zW:∀m∈P'++X,Tr.cY σ no none m= σ m:=fun m hm=>Tr.dM _ _ (fun e=>Ew (by rw[<-e];exact hm));have Xy:∀e∈L,∀m∈e.aa,m∈P'++X:=fun e he m hm=>By.2 (.inl (by rw[q2];exact abr.2 ⟨e,he,hm⟩));have HQ3:=sh q3;have T5:=sh oW;have HEO:=sh (show ∀e∈L,Tr.eI (Tr.cY σ no none) e from fun e he=>(q4 e he).congr fun m hm=>zW m (Xy e he m hm));have pK:=sh (show (L.flatMap (·.aa)++X).Nodup by rw[<-q2];exact Eu);have YW:=sh (show ∀n∈X,Tr.cY σ no none n= σ0 n from fun n hn=>(zW n (By.2 (.inr hn))).trans (hX n hn).1);have Ak:=sh (show ∀ σ' P2,Tr.Moved (Tr.cY σ no none) (L.flatMap (·.aa)++X) σ' P2->Tr.Moved σ (no::P'++X) σ' P2 from fun σ' P2 hm=>by
  rw[<-q2]at hm;exact Tr.Moved.uQ hm jB vI Eu Ew)
 have pY:=sh (show Nd.sum true ((f L).map (·.cell))<=750 by have:=hf.grow L;have:Nd.sum true (L.map (·.cell))<=488:=g5;omega);have HRI:=sh (hf.rise L q3);have HLW:=sh (show ∀e∈f L,Nd.lt e.cell.key qq=false from fun e he=>by
  rcases hf.mem L e he with h9|h9
  ·exact um e h9
  ·rw[h9];exact eV)
 have HNN:=sh vI;have H0:=sh h0;have H1:=sh h1;clear h hd cZ bI o5 g3 g4 g5 g6 q2 q3 q4 zW Xy jB vI hX um h0 h1 Eu Ew;go_enter func163,ntmps163
 go_wp2_with fail
 refine vM.out.mono ?_;rintro e w1 ⟨ar,A,c,rfl,aq⟩;have dG:=sh ar;have pW:=sh aq;have Ki:=sh (HD.out w1 S σ k no (hp.below HA.out ar) HNN.out);clear ar aq;go_wp2_with fail
 refine Ki.out.mono ?_;rintro e w2 ⟨rfl,S2,gI,cP,fH⟩;have m7:=sh ((ah.af dG.out S).trans cP);have lu:=sh (fH.mono dG.out.size);have aH:=pW.out;have aU:ba w2 w.heap.size (.slice A (L.map (·.cell)).length c) (L.map (·.cell)):=aH.off cP gj.out;have VL:∀g,aaT (.slice A (L.map (·.cell)).length c)=some g->g∉S2:=fun g hg hs=>by
  have h9:=abq aH g hg;rcases fH g hs with h8|h8
  ·have:=gj.out g h8;omega
  ·omega
 rw[IS]at aU VL;have WV:=sh (yZ.DX w2 S2 _ k L A c w.heap.size (H0.out.then m7.out H1.out) (H1.out.trans lu.out H0.out.size) gI HQ3.out T5.out HEO.out pK.out YW.out aU H0.out.size VL m7.out.size Sy);clear gI cP fH aU VL aH;go_wp2_with fail
 refine WV.out.mono ?_;rintro e w3 ⟨A',c',σ',S',U,rfl,BF,qt,IV,df,eB,Zs,gU⟩;have bB:ah S w w3:=m7.out.then eB (fun g hg=>by
  rcases Zs g hg with h9|h9
  ·exact lu.out g h9
  ·exact .inr h9)
 have Am:=sh bB;have Ag:=sh (lu.out.trans gU m7.out.size);have zZ:=sh df;have PT:=sh (Ak.out σ' _ qt);have cJ:Tr.Part σ' 0 ((f L).map (·.cell)) ((f L).flatMap (·.aa)) (f L):=⟨rfl,rfl,HRI.out,IV⟩;have An:=sh (iz qq true ⟨A',(f L).length,c'⟩ ((f L).map (·.cell)) 0 S' w3 BF (hp.old df) (abi _) cJ.right.2 pY.out);have ad9:=sh (cJ.parts qq HLW.out Z5 pY.out);clear eB gU df qt IV cJ BF Zs bB;go_wp2_with fail
 refine An.out.mono ?_;rintro e w4 ⟨bT,r,rfl,MR⟩;obtain⟨xs,Dm⟩:=ad9.out;have bX:=sh (show KL p S σ k 0 qq (no::P'++X) (f L) w (.returned (.tuple #[.slice r.A r.n r.c,.int .i64 0])) w4 from
  ⟨r,_,xs,_,σ',S',k,rfl,MR,Dm,PT.out,hp.below zZ.out bT,by omega,Am.out.trans (ah.af bT S),Ag.out⟩)
 clear bT MR Dm;go_wp2_with fail
 go_ret2
 exact bX.out
end Go.Proofs.YtjbcbnemdhbhbaaGreatDoor
