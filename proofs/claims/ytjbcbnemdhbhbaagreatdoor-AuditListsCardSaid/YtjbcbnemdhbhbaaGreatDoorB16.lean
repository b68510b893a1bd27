import Derived.Test.YtjbcbnemdhbhbaaGreatDoorB12
import Derived.Test.YtjbcbnemdhbhbaaGreatDoorB5
import Derived.Deep.RegionHeld3
import Derived.Test.YtjbcbnemdhbhbaaGreatDoorB6
set_option maxRecDepth 100000
set_option linter.unusedVariables false
set_option linter.unusedSimpArgs false
set_option maxHeartbeats 40000000
open Bool renaming false_eq_true→adh
open Go renaming Calls→aag,World→AI,maxLen→abi
open Go.Addr.mk renaming injEq→aeg
open Go.Lib renaming hid→sh
open Go.RowKit renaming Below→No
open Go.RowKit.Below renaming refl→IN
open Go.Value renaming ownBlock→aaU
open Go.World.ownsRow renaming lt→abr
open List renaming getElem?_eq_some_iff→abA,getElem_cons_zero→acV,length_append→BY,length_map→aae,map_append→abH,mem_append→AT,mem_flatMap→abp,mem_map_of_mem→abR,nodup_cons→abN
open Nat renaming add_zero→adi,le_refl→AS,lt_of_lt_of_le→aaf,zero_le→abc,zero_mul→adE
open Option.some renaming injEq→acI
namespace Go.Proofs.YtjbcbnemdhbhbaaGreatDoor
open Go.Proofs.Tryz
open Go.RowKit
def gm (p:aA) (S:List Nat) (σ':ag) (k:Nat) (ps:List Pt) (w:AI) (e:Ending) (w':AI):Prop:=
 ∃(S':List Nat) (r:Rw),e= .returned (.tuple #[.slice r.A r.n r.c,.int .i64 0])/\gy w' (Cl 0 S') r ps/\p.At w' S' σ' k/\ah S w w'/\aj w S S'
theorem uk{w:AI}{S:Nat->Prop}{jC n1 c1 n2 c2:Nat}{A1 A2:Option Addr}{a b:List Ce}(h:Bk w jC 174 #[.slice A1 n1 c1,.slice A2 n2 c2])(hS:S jC)
  (h1:aV w S ⟨A1,n1,c1⟩ a) (h2:aV w S ⟨A2,n2,c2⟩ b):fR 1 PG w S ⟨some ⟨jC,0,none⟩,2,2⟩ [a,b]:=by
 refine⟨rfl,AS _,by unfold abi;show 2<=_;omega,fun i d hd=> ?_⟩
 match i with
 | 0=>
  obtain rfl:a=d:=by simpa using hd
  refine⟨jC,0,[.slice A1 n1 c1],rfl,⟨hS,h.lt⟩,rfl,fun j u hu=> ?_,A1,n1,c1,rfl,h1⟩;have hj:j=0:=by have:=(abA.1 hu).1;simp at this;omega
  subst hj;rw[h.cell];simpa using hu
 | 1=>
  obtain rfl:b=d:=by simpa using hd
  refine⟨jC,0,[.slice A2 n2 c2],rfl,⟨hS,h.lt⟩,rfl,fun j u hu=> ?_,A2,n2,c2,rfl,h2⟩;have hj:j=0:=by have:=(abA.1 hu).1;simp at this;omega
  subst hj;rw[h.cell];simpa using hu
 | i+2=>simp at hd
theorem aV.some{w:AI}{S:Nat->Prop}{r:Rw}{l:List Ce}(h:aV w S r l)(h0:0<l.length):∃b o c,r=⟨Option.some ⟨b,o,none⟩,l.length,c⟩/\b<w.heap.size/\l.length<=c/\c<=abi:=by
 obtain⟨A,n,c⟩:=r;obtain⟨b,o,hA,hS,-⟩:=h.at 0 h0;simp only at hA;subst hA;obtain⟨h1,h2,h3,-⟩:=h;simp only at h1 h2 h3;subst h1;exact⟨b,o,c,rfl,hS.2,h2,h3⟩
theorem nW{w w2:AI}{t1 t2:TypeId}{W7 cs2:Array Value}(hb:No ((w.alloc (.cells W7 t1)).alloc (.cells cs2 t2)).heap.size ((w.alloc (.cells W7 t1)).alloc (.cells cs2 t2)) w2):
  Bk w2 w.heap.size t1 W7/\Bk w2 (w.heap.size+1) t2 cs2/\No w.heap.size w w2/\w.heap.size+2<=w2.heap.size:=by
 have h:=Bk.new (w.alloc (.cells W7 t1)) t2 cs2;rw[show (w.alloc (.cells W7 t1)).heap.size=w.heap.size+1 by simp]at h;have hs:=hb.size;simp at hs;exact⟨af ((Bk.new w t1 W7).alloc _) hb,af h hb,(((IN _ w).alloc (AS _) _).alloc (by simp) _).trans (hb.mono (by simp;omega)),by omega⟩
theorem Eu{p:aA}(hp:dc p){w:AI}{S:List Nat}{σ :ag}{k:Nat}(h:p.At w S σ k)(leaf:Bool)(k0 k1:Ce)(A2:Option Addr)(lB:Nat)(h2:aV w (Cl 0 S) ⟨A2,2,lB⟩ [k0,k1])(za:ByteArray)(xr:Rw)(L R:List Ce)(hx:aV w (Cl 0 S) xr L)
  (hσ : σ k1.child=some ⟨if leaf then 1 else 2,Nd.str leaf R⟩) (hr:Nd.right leaf R=true) (hs:Nd.sum leaf R<=488)
  (Tg:0<R.length) (MP:L.length<=1000) (eF:∀c∈L++Nd.first leaf k1.key R,Nd.aP leaf c=true) (dJ:Nd.sum leaf (L++Nd.first leaf k1.key R)<=750):
  aag prog 223 #[.iface p.T p.v,.slice A2 2 lB,.int .i64 0,.agg #[.string za,.bool leaf,.slice xr.A xr.n xr.c]] w
   (gm p S (Tr.cY σ k1.child none) k (Tr.ct k0.key leaf (L++Nd.first leaf k1.key R)) w):=by
 obtain⟨b2,o2,c2,F1,az,-,CR⟩:=h2.some (by simp);injection F1 with e1 e2 e3;subst e1 e3;obtain⟨b',o',nM,-,p0,p1,p2,p3,p4⟩:=h2.at 0 (by simp);obtain⟨b'',o'',Am,-,r0,r1,r2,r3,r4⟩:=h2.at 1 (by simp);simp only[acI,aeg,and_true]at nM Am;obtain⟨rfl,rfl⟩:=nM;obtain⟨rfl,rfl⟩:=Am;simp only[acV,List.getElem_cons_succ,adE,Nat.one_mul,adi]at p0 p1 p2 p3 p4 r0 r1 r2 r3 r4;obtain⟨Ax,nx,cx⟩:=xr;obtain⟨pI,hcx,vm,-⟩:=id hx;simp only at pI hcx vm;subst pI;have DW:lB<=9223372036854775807:=by unfold abi at CR;omega
 have ZN:cx<=9223372036854775807:=by unfold abi at vm;omega
 have HX:=sh hx;have HA:=sh h;have fZ:=sh (hp.old h);have j9:=sh (show b2∉S from by
  obtain⟨b9,o9,uQ,OT,-⟩:=h2.at 0 (by simp);simp only[acI,aeg,and_true]at uQ;rw[uQ.1];exact OT.1.2)
 obtain⟨fd,rv,-,hm,wO,hd⟩:=hp.drop;have HD:=sh hd;have nj:=sh eF;have pP:=sh dJ;have hol:R.length<=1000:=by have:=Nd.e8 leaf R;omega
 have P0:=sh p0;have R0:=sh r0;have De:=sh fun(W:AI) (hb:No w.heap.size w W)=>oY hp (hp.below HA.out hb) _ leaf _ hr hs hσ;have zr:=sh (show σ k1.child≠none by rw[hσ];simp);clear h2 hx h hd eF dJ vm CR hr hs hσ;go_enter func223,ntmps223
 go_wp2_with fail
 refine(De.out _ (((IN _ w).alloc (AS _) _).alloc (by simp) _)).mono ?_;rintro e w1 ⟨ar,A,c,rfl,au⟩;obtain⟨oe,dw,gJ,pK⟩:=nW ar;obtain⟨g,rfl,Kg,tA,-,AE,zi⟩:=au.full Tg;simp at Kg;have ZM:c<=9223372036854775807:=by unfold abi at zi;omega
 have v1:w1.cell? ⟨w.heap.size,1,none⟩=some (.bool leaf):=oe.cell 1;have v4:w1.cell? ⟨w.heap.size+1,4,none⟩=some (.int .i64 k1.child):=dw.cell 4;have l0:=oe.lt;have l1:=dw.lt;have T1:=sh oe;have dD:=sh gJ;have sL:=sh au;have J5:=sh (HD.out w1 S σ k _ (hp.below HA.out gJ) zr.out);clear ar gJ oe dw au p0 p1 p2 p3 p4 r0 r1 r2 r3 r4 zi;go_wp2_with fail
 refine J5.out.mono ?_;rintro e w2 ⟨rfl,S2,gB,dg,fD⟩;have ll:=sh ((ah.ae dD.out S).trans dg);have sJ:=sh (fD.mono dD.out.size);have YR:=sh (HX.out.carry ll.out sJ.out);have Yp:=sh (((sL.out.apart (S:=S) (fun b hb=>by have:=fZ.out b hb;simp;omega)).sub (T:=Cl 0 S) (fun b h _=>⟨abc _,h.2⟩)).carry dg fD);have bO:=dg.bk T1.out (fun hh=>by have:=fZ.out _ hh;omega);have u1:w2.cell? ⟨w.heap.size,1,none⟩=some (.bool leaf):=bO.cell 1;have u2:w2.cell? ⟨w.heap.size,2,none⟩=some (.slice Ax L.length cx):=bO.cell 2;have l2:=bO.lt;have Sx:=(ll.out.cell (p:=⟨b2,o2,none⟩) az j9.out).trans P0.out;have Sy:=(ll.out.cell (p:=⟨b2,o2+5,none⟩) az j9.out).trans R0.out;have jw:w.heap.size<=w2.heap.size:=ll.out.size;have pE:=sh Sx;have gM:=sh Sy;have sG:=sh gB;have qX:=hp.old gB;have gW:=sh qX;have TO:=sh fun(W:AI) (hb:No w2.heap.size w2 W)=>(show aag prog 221 #[.slice (some ⟨g,0,none⟩) R.length c] W (iq R W) from
  my ⟨some ⟨g,0,none⟩,R.length,c⟩ R (Cl 0 S2) W (Yp.out.below hb) (by omega) (by omega))
 have Qj:0<R.length:=by omega
 have hLm:L.length<=1000:=by omega
 have hRm:R.length<=1000:=by omega
 clear gB dg fD bO Sx Sy qX v1 v4 l0 l1;go_wp2_with fail
 refine(TO.out _ (IN _ _)).mono ?_;rintro e w3 ⟨aQ,A3,c3,rfl,aw⟩;obtain⟨g3,rfl,D0,afa,-,afb,Mc⟩:=aw.full Qj;obtain⟨O4,F7⟩:=aw.Wh Qj;obtain⟨ky3,Mi⟩:∃x,x=(R[0]'Qj).key:=⟨_,rfl⟩;rw[<-Mi]at O4;have rU:No w2.heap.size w2 w3:=aQ;have D0:w2.heap.size<=g3:=D0;have q5:=(rU.cell (p:=⟨b2,o2+5,none⟩) (by show b2<_;omega)).trans gM.out;have Qp:c3<=9223372036854775807:=by unfold abi at Mc;omega
 have fj:∃wx,No w2.heap.size w2 wx/\aZ wx w2.heap.size (.slice (some ⟨g3,0,none⟩) R.length c3) (Nd.first leaf k1.key R)/\wx=(if leaf then w3 else w3.setCell ⟨g3,0,none⟩ (.string k1.key)):=by
  cases leaf
  ·exact⟨_,rU.setCell (p:=⟨g3,0,none⟩) D0 _,aw.NN Qj _,rfl⟩
  ·exact⟨_,rU,aw,rfl⟩
 obtain⟨wx,Au,Ge,QW⟩:=fj;obtain⟨R2,Kc⟩:∃R2,R2=Nd.first leaf k1.key R:=⟨_,rfl⟩;have DU:R2.length=R.length:=by rw[Kc,Nd.ij]
 rw[<-Kc]at nj pP Ge |-;rw[<-DU]at Ge;have jH:=sh Au;have Ue:=sh Ge;have YQ:=sh QW;have Ul:=sh DU;have Uk:=sh Kc;have UW:0<R2.length:=by omega
 have aeF:R2.length<=1000:=by omega
 clear aQ aw rU Au Ge QW Kc DU Mc Mi;cases leaf
 all_goals
  go_wp2_with fail
  have MN:=YQ.out;simp only[adh,if_false,if_true]at MN;rw[<-MN];clear MN q5 O4 F7;have q0:wx.cell? ⟨b2,o2,none⟩=some (.string k0.key):=(jH.out.cell (p:=⟨b2,o2,none⟩) (by show b2<_;omega)).trans pE.out;have L3:b2<wx.heap.size:=by have:=jH.out.size;omega
  have Ye:=sh (YR.out.below jH.out);have Um:=sh (Ue.out.apart (S:=S2) gW.out);have hgx:g3<wx.heap.size:=(Ue.out.full UW).elim fun _ h=>by have:=h.2.2.1;have e:=h.1;simp at e;omega
  rw[Ul.out]at Um;have sI:=sh (show ∀b∈S2,b<wx.heap.size from fun b hb=>aaf (gW.out b hb) jH.out.size);have Da:=sh (show aag prog 224 #[.slice (some ⟨wx.heap.size,0,none⟩) 2 2] (wx.alloc (.cells #[.slice Ax L.length cx,.slice (some ⟨g3,0,none⟩) R.length c3] 174)).drew (iq (L++R2) (wx.alloc (.cells #[.slice Ax L.length cx,.slice (some ⟨g3,0,none⟩) R.length c3] 174)).drew) from by
   have hk:=(Bk.new wx 174 #[.slice Ax L.length cx,.slice (some ⟨g3,0,none⟩) R.length c3]).drew;have gX:No wx.heap.size wx (wx.alloc (.cells #[.slice Ax L.length cx,.slice (some ⟨g3,0,none⟩) R.length c3] 174)).drew:=((IN _ _).alloc (AS _) _).drew;have hz:=ke ⟨some ⟨wx.heap.size,0,none⟩,2,2⟩ [L,R2] (Cl 0 S2) _ (uk hk ⟨abc _,fun hh=>by have:=sI.out _ hh;omega⟩ (Ye.out.below gX) ((Um.out.sub (T:=Cl 0 S2) (fun b h _=>⟨abc _,h.2⟩)).below gX)) (by simp;omega) (by simp;omega) (by simp);simpa using hz)
  have bH:=sh (show ∀W:AI,No wx.heap.size wx W->W.cell? ⟨b2,o2,none⟩=some (.string k0.key)/\No wx.heap.size wx W from fun W hb=>⟨(hb.cell (p:=⟨b2,o2,none⟩) L3).trans q0,hb⟩);have kR:=sh (show No wx.heap.size wx wx.drew from (IN _ _).drew);have gX:=sh (show No wx.heap.size wx (wx.alloc (.cells #[.slice Ax L.length cx,.slice (some ⟨g3,0,none⟩) R.length c3] 174)).drew from ((IN _ _).alloc (AS _) _).drew);have zz:=sh fun(W:AI) (A:Option Addr) (c:Nat) (B:Nat) (au:aZ W B (.slice A (L++R2).length c) (L++R2)) (hB:wx.heap.size<=B) (hb:No wx.heap.size wx W)=>(show aag prog 162 #[.string k0.key,.bool _,.slice A (L.length+R2.length) c] W (mo 0 S2 (Tr.ct k0.key _ (L++R2)) W) from by
   rw[<-BY];exact il k0.key _ ⟨A,(L++R2).length,c⟩ (L++R2) 0 S2 W (au.as.sub (fun b h1 _=>⟨abc _,fun hh=>by have:=sI.out b hh;omega⟩)) (fun b hh=>aaf (sI.out b hh) hb.size) (abc _) nj.out pP.out)
  go_region_held3 (fun W=>W.cell? ⟨b2,o2,none⟩=some (.string k0.key)/\No wx.heap.size wx W) (first|(with_reducible exact bH.out _ kR.out)|(with_reducible exact bH.out _ gX.out)|(with_reducible exact bH.out _ jN)|(with_reducible exact bH.out _ lJ)) (first
   | (go_at_call 224;(with_reducible refine Da.out.mono ?_);rintro e w6 ⟨gS,A6,c6,rfl,dP⟩;have lJ:=gX.out.trans (gS.mono gX.out.size))
   | (go_at_call 162;(with_reducible refine(zz.out _ _ _ _ dP gX.out.size lJ).mono ?_);rintro e w7 ⟨yn,r7,rfl,AV⟩;have jN:=lJ.trans (yn.mono lJ.size)))
  all_goals
   have bG:ah S w w7:=ll.out.then ((ah.ae jH.out S2).trans (ah.ae jN S2)) sJ.out;have bV:=sh (show gm p S (Tr.cY σ k1.child none) k (Tr.ct k0.key _ (L++Nd.first _ k1.key R)) w (.returned (.tuple #[.slice r7.A r7.n r7.c,.int .i64 0])) w7 from by
    rw[<-Uk.out];exact⟨S2,r7,rfl,AV,hp.below sG.out (jH.out.trans (jN.mono jH.out.size)),bG,sJ.out⟩)
   clear gS dP lJ yn AV jN bG;go_wp2_with fail
   go_ret2
   exact bV.out
theorem Bq{p:aA}(hp:dc p){w:AI}{S:List Nat}{σ :ag}{k:Nat}(h:p.At w S σ k)(leaf:Bool)(k0 k1:Ce)(A2:Option Addr)(lB:Nat)(h2:aV w (Cl 0 S) ⟨A2,2,lB⟩ [k0,k1])(za:ByteArray)(xr:Rw)(L R:List Ce)(hx:aV w (Cl 0 S) xr R)
  (hσ : σ k0.child=some ⟨if leaf then 1 else 2,Nd.str leaf L⟩) (hr:Nd.right leaf L=true) (hs:Nd.sum leaf L<=488)
  (CY:0<R.length) (Tg:0<L.length) (MP:R.length<=1000) (eF:∀c∈L++Nd.first leaf k1.key R,Nd.aP leaf c=true) (dJ:Nd.sum leaf (L++Nd.first leaf k1.key R)<=750):
  aag prog 223 #[.iface p.T p.v,.slice A2 2 lB,.int .i64 1,.agg #[.string za,.bool leaf,.slice xr.A xr.n xr.c]] w
   (gm p S (Tr.cY σ k0.child none) k (Tr.ct k0.key leaf (L++Nd.first leaf k1.key R)) w):=by
 obtain⟨b2,o2,c2,F1,az,-,CR⟩:=h2.some (by simp);injection F1 with e1 e2 e3;subst e1 e3;obtain⟨b',o',nM,-,p0,p1,p2,p3,p4⟩:=h2.at 0 (by simp);obtain⟨b'',o'',Am,-,r0,r1,r2,r3,r4⟩:=h2.at 1 (by simp);simp only[acI,aeg,and_true]at nM Am;obtain⟨rfl,rfl⟩:=nM;obtain⟨rfl,rfl⟩:=Am;simp only[acV,List.getElem_cons_succ,adE,Nat.one_mul,adi]at p0 p1 p2 p3 p4 r0 r1 r2 r3 r4;obtain⟨bx,ox,cx,rfl,Qn,hcx,vm⟩:=hx.some CY;have DW:lB<=9223372036854775807:=by unfold abi at CR;omega
 have ZN:cx<=9223372036854775807:=by unfold abi at vm;omega
 have HX:=sh hx;have HA:=sh h;have fZ:=sh (hp.old h);have j9:=sh (show b2∉S from by
  obtain⟨b9,o9,uQ,OT,-⟩:=h2.at 0 (by simp);simp only[acI,aeg,and_true]at uQ;rw[uQ.1];exact OT.1.2)
 obtain⟨fd,rv,-,hm,wO,hd⟩:=hp.drop;have HD:=sh hd;have nj:=sh eF;have pP:=sh dJ;have hol:L.length<=1000:=by have:=Nd.e8 leaf L;omega
 have P0:=sh p0;have R0:=sh r0;have De:=sh fun(W:AI) (hb:No w.heap.size w W)=>oY hp (hp.below HA.out hb) _ leaf _ hr hs hσ;have zr:=sh (show σ k0.child≠none by rw[hσ];simp);clear h2 hx h hd eF dJ vm CR hr hs hσ;go_enter func223,ntmps223
 go_wp2_with fail
 refine(De.out _ (((IN _ w).alloc (AS _) _).alloc (by simp) _)).mono ?_;rintro e w1 ⟨ar,A,c,rfl,au⟩;obtain⟨oe,dw,gJ,pK⟩:=nW ar;obtain⟨g,rfl,Kg,tA,-,AE,zi⟩:=au.full Tg;simp at Kg;have ZM:c<=9223372036854775807:=by unfold abi at zi;omega
 have v1:w1.cell? ⟨w.heap.size,1,none⟩=some (.bool leaf):=oe.cell 1;have v4:w1.cell? ⟨w.heap.size+1,4,none⟩=some (.int .i64 k0.child):=dw.cell 4;have l0:=oe.lt;have l1:=dw.lt;have T1:=sh oe;have dD:=sh gJ;have sL:=sh au;have J5:=sh (HD.out w1 S σ k _ (hp.below HA.out gJ) zr.out);clear ar gJ oe dw au p0 p1 p2 p3 p4 r0 r1 r2 r3 r4 zi;go_wp2_with fail
 refine J5.out.mono ?_;rintro e w2 ⟨rfl,S2,gB,dg,fD⟩;have ll:=sh ((ah.ae dD.out S).trans dg);have sJ:=sh (fD.mono dD.out.size);have YR:=sh (HX.out.carry ll.out sJ.out);have Yp:=sh (((sL.out.apart (S:=S) (fun b hb=>by have:=fZ.out b hb;simp;omega)).sub (T:=Cl 0 S) (fun b h _=>⟨abc _,h.2⟩)).carry dg fD);have bO:=dg.bk T1.out (fun hh=>by have:=fZ.out _ hh;omega);have u1:w2.cell? ⟨w.heap.size,1,none⟩=some (.bool leaf):=bO.cell 1;have u2:w2.cell? ⟨w.heap.size,2,none⟩=some (.slice (some ⟨bx,ox,none⟩) R.length cx):=bO.cell 2;have l2:=bO.lt;have Sx:=(ll.out.cell (p:=⟨b2,o2,none⟩) az j9.out).trans P0.out;have Sy:=(ll.out.cell (p:=⟨b2,o2+5,none⟩) az j9.out).trans R0.out;have jw:w.heap.size<=w2.heap.size:=ll.out.size;have pE:=sh Sx;have gM:=sh Sy;have sG:=sh gB;have qX:=hp.old gB;have gW:=sh qX;have TO:=sh fun(W:AI) (hb:No w2.heap.size w2 W)=>(show aag prog 221 #[.slice (some ⟨bx,ox,none⟩) R.length cx] W (iq R W) from
  my ⟨some ⟨bx,ox,none⟩,R.length,cx⟩ R (Cl 0 S2) W (YR.out.below hb) (by omega) (by omega))
 have Qm:g<w2.heap.size:=by have:=dg.size;omega
 have Xb:0<L.length:=by omega
 have Qj:0<R.length:=by omega
 have hLm:L.length<=1000:=by omega
 have hRm:R.length<=1000:=by omega
 clear gB dg fD bO Sx Sy qX v1 v4 l0 l1;go_wp2_with fail
 go_quiet (fail)
 go_wp2_with fail
 refine(TO.out _ (below_drewN (IN _ _) _)).mono ?_;rintro e w3 ⟨aQ,A3,c3,rfl,aw⟩;obtain⟨g3,rfl,D0,afa,-,afb,Mc⟩:=aw.full Qj;obtain⟨O4,F7⟩:=aw.Wh Qj;obtain⟨ky3,Mi⟩:∃x,x=(R[0]'Qj).key:=⟨_,rfl⟩;rw[<-Mi]at O4;have rU:No w2.heap.size w2 w3:=(below_drewN (IN _ w2) _).trans aQ;have D0:w2.heap.size<=g3:=D0;have q5:=(rU.cell (p:=⟨b2,o2+5,none⟩) (by show b2<_;omega)).trans gM.out;have Qp:c3<=9223372036854775807:=by unfold abi at Mc;omega
 have fj:∃wx,No w2.heap.size w2 wx/\aZ wx w2.heap.size (.slice (some ⟨g3,0,none⟩) R.length c3) (Nd.first leaf k1.key R)/\wx=(if leaf then w3 else w3.setCell ⟨g3,0,none⟩ (.string k1.key)):=by
  cases leaf
  ·exact⟨_,rU.setCell (p:=⟨g3,0,none⟩) D0 _,aw.NN Qj _,rfl⟩
  ·exact⟨_,rU,aw,rfl⟩
 obtain⟨wx,Au,Ge,QW⟩:=fj;obtain⟨R2,Kc⟩:∃R2,R2=Nd.first leaf k1.key R:=⟨_,rfl⟩;have DU:R2.length=R.length:=by rw[Kc,Nd.ij]
 rw[<-Kc]at nj pP Ge |-;rw[<-DU]at Ge;have jH:=sh Au;have Ue:=sh Ge;have YQ:=sh QW;have Ul:=sh DU;have Uk:=sh Kc;have UW:0<R2.length:=by omega
 have aeF:R2.length<=1000:=by omega
 clear aQ aw rU Au Ge QW Kc DU Mc Mi;cases leaf
 all_goals
  go_wp2_with fail
  have MN:=YQ.out;simp only[adh,if_false,if_true]at MN;rw[<-MN];clear MN q5 O4 F7;have q0:wx.cell? ⟨b2,o2,none⟩=some (.string k0.key):=(jH.out.cell (p:=⟨b2,o2,none⟩) (by show b2<_;omega)).trans pE.out;have L3:b2<wx.heap.size:=by have:=jH.out.size;omega
  have Ye:=sh (Yp.out.below jH.out);have Um:=sh (Ue.out.apart (S:=S2) gW.out);have hgx:g3<wx.heap.size:=(Ue.out.full UW).elim fun _ h=>by have:=h.2.2.1;have e:=h.1;simp at e;omega
  have hlx:g<wx.heap.size:=by have:=jH.out.size;omega
  rw[Ul.out]at Um;have sI:=sh (show ∀b∈S2,b<wx.heap.size from fun b hb=>aaf (gW.out b hb) jH.out.size);have Da:=sh (show aag prog 224 #[.slice (some ⟨wx.heap.size,0,none⟩) 2 2] (wx.alloc (.cells #[.slice (some ⟨g,0,none⟩) L.length c,.slice (some ⟨g3,0,none⟩) R.length c3] 174)).drew (iq (L++R2) (wx.alloc (.cells #[.slice (some ⟨g,0,none⟩) L.length c,.slice (some ⟨g3,0,none⟩) R.length c3] 174)).drew) from by
   have hk:=(Bk.new wx 174 #[.slice (some ⟨g,0,none⟩) L.length c,.slice (some ⟨g3,0,none⟩) R.length c3]).drew;have gX:No wx.heap.size wx (wx.alloc (.cells #[.slice (some ⟨g,0,none⟩) L.length c,.slice (some ⟨g3,0,none⟩) R.length c3] 174)).drew:=((IN _ _).alloc (AS _) _).drew;have hz:=ke ⟨some ⟨wx.heap.size,0,none⟩,2,2⟩ [L,R2] (Cl 0 S2) _ (uk hk ⟨abc _,fun hh=>by have:=sI.out _ hh;omega⟩ (Ye.out.below gX) ((Um.out.sub (T:=Cl 0 S2) (fun b h _=>⟨abc _,h.2⟩)).below gX)) (by simp;omega) (by simp;omega) (by simp);simpa using hz)
  have bH:=sh (show ∀W:AI,No wx.heap.size wx W->W.cell? ⟨b2,o2,none⟩=some (.string k0.key)/\No wx.heap.size wx W from fun W hb=>⟨(hb.cell (p:=⟨b2,o2,none⟩) L3).trans q0,hb⟩);have kR:=sh (show No wx.heap.size wx wx.drew from (IN _ _).drew);have gX:=sh (show No wx.heap.size wx (wx.alloc (.cells #[.slice (some ⟨g,0,none⟩) L.length c,.slice (some ⟨g3,0,none⟩) R.length c3] 174)).drew from ((IN _ _).alloc (AS _) _).drew);have zz:=sh fun(W:AI) (A:Option Addr) (c:Nat) (B:Nat) (au:aZ W B (.slice A (L++R2).length c) (L++R2)) (hB:wx.heap.size<=B) (hb:No wx.heap.size wx W)=>(show aag prog 162 #[.string k0.key,.bool _,.slice A (L.length+R2.length) c] W (mo 0 S2 (Tr.ct k0.key _ (L++R2)) W) from by
   rw[<-BY];exact il k0.key _ ⟨A,(L++R2).length,c⟩ (L++R2) 0 S2 W (au.as.sub (fun b h1 _=>⟨abc _,fun hh=>by have:=sI.out b hh;omega⟩)) (fun b hh=>aaf (sI.out b hh) hb.size) (abc _) nj.out pP.out)
  go_region_held3 (fun W=>W.cell? ⟨b2,o2,none⟩=some (.string k0.key)/\No wx.heap.size wx W) (first|(with_reducible exact bH.out _ kR.out)|(with_reducible exact bH.out _ gX.out)|(with_reducible exact bH.out _ jN)|(with_reducible exact bH.out _ lJ)) (first
   | (go_at_call 224;(with_reducible refine Da.out.mono ?_);rintro e w6 ⟨gS,A6,c6,rfl,dP⟩;have lJ:=gX.out.trans (gS.mono gX.out.size))
   | (go_at_call 162;(with_reducible refine(zz.out _ _ _ _ dP gX.out.size lJ).mono ?_);rintro e w7 ⟨yn,r7,rfl,AV⟩;have jN:=lJ.trans (yn.mono lJ.size)))
  all_goals
   have bG:ah S w w7:=ll.out.then ((ah.ae jH.out S2).trans (ah.ae jN S2)) sJ.out;have bV:=sh (show gm p S (Tr.cY σ k0.child none) k (Tr.ct k0.key _ (L++Nd.first _ k1.key R)) w (.returned (.tuple #[.slice r7.A r7.n r7.c,.int .i64 0])) w7 from by
    rw[<-Uk.out];exact⟨S2,r7,rfl,AV,hp.below sG.out (jH.out.trans (jN.mono jH.out.size)),bG,sJ.out⟩)
   clear gS dP lJ yn AV jN bG;go_wp2_with fail
   go_ret2
   exact bV.out
theorem Bp{p:aA}(hp:dc p){w:AI}{S:List Nat}{σ :ag}{k:Nat}(h:p.At w S σ k)(k0 k1:Ce)(A2:Option Addr)(lB:Nat)(h2:aV w (Cl 0 S) ⟨A2,2,lB⟩ [k0,k1])(za:ByteArray)(xr:Rw)(L:List Ce)(hx:aV w (Cl 0 S) xr [])
  (hσ : σ k0.child=some ⟨1,Nd.str true L⟩) (hr:Nd.right true L=true) (hs:Nd.sum true L<=488)
  (Tg:0<L.length) (eF:∀c∈L,Nd.aP true c=true) (dJ:Nd.sum true L<=750):
  aag prog 223 #[.iface p.T p.v,.slice A2 2 lB,.int .i64 1,.agg #[.string za,.bool true,.slice xr.A xr.n xr.c]] w
   (gm p S (Tr.cY σ k0.child none) k (Tr.ct k0.key true L) w):=by
 obtain⟨b2,o2,c2,F1,az,-,CR⟩:=h2.some (by simp);injection F1 with e1 e2 e3;subst e1 e3;obtain⟨b',o',nM,-,p0,p1,p2,p3,p4⟩:=h2.at 0 (by simp);obtain⟨b'',o'',Am,-,r0,r1,r2,r3,r4⟩:=h2.at 1 (by simp);simp only[acI,aeg,and_true]at nM Am;obtain⟨rfl,rfl⟩:=nM;obtain⟨rfl,rfl⟩:=Am;simp only[acV,List.getElem_cons_succ,adE,Nat.one_mul,adi]at p0 p1 p2 p3 p4 r0 r1 r2 r3 r4;obtain⟨Ax,nx,cx⟩:=xr;obtain⟨pI,hcx,vm,-⟩:=id hx;simp only[List.length_nil]at pI hcx vm;subst pI;have DW:lB<=9223372036854775807:=by unfold abi at CR;omega
 have ZN:cx<=9223372036854775807:=by unfold abi at vm;omega
 have HX:=sh hx;have HA:=sh h;have fZ:=sh (hp.old h);have j9:=sh (show b2∉S from by
  obtain⟨b9,o9,uQ,OT,-⟩:=h2.at 0 (by simp);simp only[acI,aeg,and_true]at uQ;rw[uQ.1];exact OT.1.2)
 obtain⟨fd,rv,-,hm,wO,hd⟩:=hp.drop;have HD:=sh hd;have nj:=sh eF;have pP:=sh dJ;have hol:L.length<=1000:=by have:=Nd.e8 true L;omega
 have P0:=sh p0;have R0:=sh r0;have De:=sh fun(W:AI) (hb:No w.heap.size w W)=>oY hp (hp.below HA.out hb) _ true _ hr hs hσ;have zr:=sh (show σ k0.child≠none by rw[hσ];simp);clear h2 hx h hd eF dJ vm CR hr hs hσ;go_enter func223,ntmps223
 go_wp2_with fail
 refine(De.out _ (((IN _ w).alloc (AS _) _).alloc (by simp) _)).mono ?_;rintro e w1 ⟨ar,A,c,rfl,au⟩;obtain⟨oe,dw,gJ,pK⟩:=nW ar;obtain⟨g,rfl,Kg,tA,-,AE,zi⟩:=au.full Tg;simp at Kg;have ZM:c<=9223372036854775807:=by unfold abi at zi;omega
 have v1:w1.cell? ⟨w.heap.size,1,none⟩=some (.bool true):=oe.cell 1;have v4:w1.cell? ⟨w.heap.size+1,4,none⟩=some (.int .i64 k0.child):=dw.cell 4;have l0:=oe.lt;have l1:=dw.lt;have T1:=sh oe;have dD:=sh gJ;have sL:=sh au;have J5:=sh (HD.out w1 S σ k _ (hp.below HA.out gJ) zr.out);clear ar gJ oe dw au p0 p1 p2 p3 p4 r0 r1 r2 r3 r4 zi;go_wp2_with fail
 refine J5.out.mono ?_;rintro e w2 ⟨rfl,S2,gB,dg,fD⟩;have ll:=sh ((ah.ae dD.out S).trans dg);have sJ:=sh (fD.mono dD.out.size);have YR:=sh (HX.out.carry ll.out sJ.out);have Yp:=sh (((sL.out.apart (S:=S) (fun b hb=>by have:=fZ.out b hb;simp;omega)).sub (T:=Cl 0 S) (fun b h _=>⟨abc _,h.2⟩)).carry dg fD);have bO:=dg.bk T1.out (fun hh=>by have:=fZ.out _ hh;omega);have u1:w2.cell? ⟨w.heap.size,1,none⟩=some (.bool true):=bO.cell 1;have u2:w2.cell? ⟨w.heap.size,2,none⟩=some (.slice Ax 0 cx):=bO.cell 2;have l2:=bO.lt;have Sx:=(ll.out.cell (p:=⟨b2,o2,none⟩) az j9.out).trans P0.out;have Sy:=(ll.out.cell (p:=⟨b2,o2+5,none⟩) az j9.out).trans R0.out;have jw:w.heap.size<=w2.heap.size:=ll.out.size;have pE:=sh Sx;have gM:=sh Sy;have sG:=sh gB;have qX:=hp.old gB;have gW:=sh qX;have TO:=sh fun(W:AI) (hb:No w2.heap.size w2 W)=>DB ⟨Ax,0,cx⟩ (Cl 0 S2) W (YR.out.below hb);have Qm:g<w2.heap.size:=by have:=dg.size;omega
 have Xb:0<L.length:=by omega
 have hLm:L.length<=1000:=by omega
 clear gB dg fD bO Sx Sy qX v1 v4 l0 l1;go_wp2_with fail
 go_quiet (fail)
 go_wp2_with fail
 refine(TO.out _ (below_drewN (IN _ _) _)).mono ?_;rintro e wx ⟨aQ,A3,c3,rfl,aw⟩;have rU:No w2.heap.size w2 wx:=(below_drewN (IN _ w2) _).trans aQ;have jH:=sh rU;have Qp:c3<=9223372036854775807:=by
  obtain⟨A',c',hv,-,dC⟩:=bg aw;injection hv with _ _ e3;subst e3;unfold abi at dC;exact dC
 have Um:=sh (show aV wx (Cl 0 S2) ⟨A3,0,c3⟩ [] from ⟨rfl,abc _,by unfold abi;exact Qp,fun i d hd=>by simp at hd⟩);clear aQ aw rU;go_wp2_with fail
 all_goals
  have q0:wx.cell? ⟨b2,o2,none⟩=some (.string k0.key):=(jH.out.cell (p:=⟨b2,o2,none⟩) (by show b2<_;omega)).trans pE.out;have L3:b2<wx.heap.size:=by have:=jH.out.size;omega
  have Ye:=sh (Yp.out.below jH.out);have hlx:g<wx.heap.size:=by have:=jH.out.size;omega
  have sI:=sh (show ∀b∈S2,b<wx.heap.size from fun b hb=>aaf (gW.out b hb) jH.out.size);have Da:=sh (show aag prog 224 #[.slice (some ⟨wx.heap.size,0,none⟩) 2 2] (wx.alloc (.cells #[.slice (some ⟨g,0,none⟩) L.length c,.slice A3 0 c3] 174)).drew (iq L (wx.alloc (.cells #[.slice (some ⟨g,0,none⟩) L.length c,.slice A3 0 c3] 174)).drew) from by
   have hk:=(Bk.new wx 174 #[.slice (some ⟨g,0,none⟩) L.length c,.slice A3 0 c3]).drew;have gX:No wx.heap.size wx (wx.alloc (.cells #[.slice (some ⟨g,0,none⟩) L.length c,.slice A3 0 c3] 174)).drew:=((IN _ _).alloc (AS _) _).drew;have hz:=ke ⟨some ⟨wx.heap.size,0,none⟩,2,2⟩ [L,[]] (Cl 0 S2) _ (uk hk ⟨abc _,fun hh=>by have:=sI.out _ hh;omega⟩ (Ye.out.below gX) (Um.out.below gX)) (by simp;omega) (by simp;omega) (by simp);simpa using hz)
  have bH:=sh (show ∀W:AI,No wx.heap.size wx W->W.cell? ⟨b2,o2,none⟩=some (.string k0.key)/\No wx.heap.size wx W from fun W hb=>⟨(hb.cell (p:=⟨b2,o2,none⟩) L3).trans q0,hb⟩);have kR:=sh (show No wx.heap.size wx wx.drew from (IN _ _).drew);have gX:=sh (show No wx.heap.size wx (wx.alloc (.cells #[.slice (some ⟨g,0,none⟩) L.length c,.slice A3 0 c3] 174)).drew from ((IN _ _).alloc (AS _) _).drew);have zz:=sh fun(W:AI) (A:Option Addr) (c:Nat) (B:Nat) (au:aZ W B (.slice A L.length c) L) (hB:wx.heap.size<=B) (hb:No wx.heap.size wx W)=>(show aag prog 162 #[.string k0.key,.bool true,.slice A (L.length) c] W (mo 0 S2 (Tr.ct k0.key true L) W) from by
   exact il k0.key true ⟨A,L.length,c⟩ L 0 S2 W (au.as.sub (fun b h1 _=>⟨abc _,fun hh=>by have:=sI.out b hh;omega⟩)) (fun b hh=>aaf (sI.out b hh) hb.size) (abc _) nj.out pP.out)
  go_region_held3 (fun W=>W.cell? ⟨b2,o2,none⟩=some (.string k0.key)/\No wx.heap.size wx W) (first|(with_reducible exact bH.out _ kR.out)|(with_reducible exact bH.out _ gX.out)|(with_reducible exact bH.out _ jN)|(with_reducible exact bH.out _ lJ)) (first
   | (go_at_call 224;(with_reducible refine Da.out.mono ?_);rintro e w6 ⟨gS,A6,c6,rfl,dP⟩;have lJ:=gX.out.trans (gS.mono gX.out.size))
   | (go_at_call 162;(with_reducible refine(zz.out _ _ _ _ dP gX.out.size lJ).mono ?_);rintro e w7 ⟨yn,r7,rfl,AV⟩;have jN:=lJ.trans (yn.mono lJ.size)))
  all_goals
   have bG:ah S w w7:=ll.out.then ((ah.ae jH.out S2).trans (ah.ae jN S2)) sJ.out;have bV:=sh (show gm p S (Tr.cY σ k0.child none) k (Tr.ct k0.key true L) w (.returned (.tuple #[.slice r7.A r7.n r7.c,.int .i64 0])) w7 from by
    exact⟨S2,r7,rfl,AV,hp.below sG.out (jH.out.trans (jN.mono jH.out.size)),bG,sJ.out⟩)
   clear gS dP lJ yn AV jN bG;go_wp2_with fail
   go_ret2
   exact bV.out
theorem Ev{p:aA}(hp:dc p){w:AI}{S:List Nat}{σ :ag}{k:Nat}(h:p.At w S σ k)(leaf:Bool)(k0 k1:Ce)(A2:Option Addr)(lB:Nat)(h2:aV w (Cl 0 S) ⟨A2,2,lB⟩ [k0,k1])(za:ByteArray)(xr:Rw)(L R:List Ce)(hx:aV w (Cl 0 S) xr R)
  (hσ : σ k0.child=some ⟨if leaf then 1 else 2,Nd.str leaf L⟩) (hr:Nd.right leaf L=true) (hs:Nd.sum leaf L<=488)
  (CY:leaf=false->0<R.length) (Tg:0<L.length) (MP:R.length<=1000) (eF:∀c∈L++Nd.first leaf k1.key R,Nd.aP leaf c=true) (dJ:Nd.sum leaf (L++Nd.first leaf k1.key R)<=750):
  aag prog 223 #[.iface p.T p.v,.slice A2 2 lB,.int .i64 1,.agg #[.string za,.bool leaf,.slice xr.A xr.n xr.c]] w
   (gm p S (Tr.cY σ k0.child none) k (Tr.ct k0.key leaf (L++Nd.first leaf k1.key R)) w):=by
 by_cases hR:0<R.length
 ·exact Bq hp h leaf k0 k1 A2 lB h2 za xr L R hx hσ hr hs hR Tg MP eF dJ
 ·have e:R=[]:=List.eq_nil_of_length_eq_zero (by omega)
  subst e;cases leaf with
  | false=>exact absurd (CY rfl) hR
  | true=>
   have e2:Nd.first true k1.key []=[]:=rfl;rw[e2,List.append_nil]at eF dJ |-;exact Bp hp h k0 k1 A2 lB h2 za xr L hx hσ hr hs Tg eF dJ
def xH (p:aA) (S:List Nat) (σ :ag) (k B:Nat) (X:List Nat) (l fl:List En) (w:AI) (e:Ending) (w':AI):Prop:=
 ∃(A':Option Addr) (c':Nat) (σ':ag) (S' U:List Nat),e= .returned (.tuple #[.slice A' fl.length c',.int .i64 0])/\aV w' (Cl 0 S') ⟨A',fl.length,c'⟩ (fl.map (·.cell))/\
   Tr.Moved σ (l.flatMap (·.aa)++X) σ' (fl.flatMap (·.aa))/\(∀e∈fl,Tr.ft σ' e)/\p.At w' S' σ' k/\ah U w w'/\(∀g∈U,g∈S\/B<=g)/\aj w S S'
def Tr.Has (iG:Bool) (key:ByteArray) (l:List En):Prop:=iG=true->∃e∈l,e.cell.key=key
theorem Tr.Has.O9{σ :ag}{iG:Bool}{key:ByteArray}{d:Nat}{ks A C:List Kd}{kj:Kd}(h:Tr.Has iG key (ks.flatMap (·.L)))(hs:ks=A++[kj]++C)(hB:Tr.Kids σ d ks)(hC:∀c∈C,Nd.lt key c.key=true)(hle:Nd.lt key kj.key=false):Tr.Has iG key kj.L:=fun hm=>by
 obtain⟨e,he,hk⟩:=h hm;obtain⟨k,jD,hek⟩:=abp.1 he;have iQ:=hB.sep;rw[hs,abH,abH,Tr.eU,Tr.eU]at iQ;obtain⟨⟨sA,sM,sAM⟩,sC,sMC⟩:=iQ;rw[hs]at jD;rcases AT.1 jD with jD|jD
 ·rcases AT.1 jD with jD|jD
  ·have h1:=sAM k.rg (abR jD) kj.rg (by simp) e hek
   rw[show kj.rg.1=kj.key from rfl,hk,hle]at h1;cases h1
  ·rw[List.mem_singleton]at jD
   subst jD;exact⟨e,hek,hk⟩
 ·have h1:=sC.2 k.rg (abR jD) e hek
  rw[show k.rg.1=k.key from rfl,hk,hC k jD]at h1;cases h1
structure pL (p:aA) (fc:Nat) (cR:Array Value) (w0:AI) (S0:List Nat) (σ0:ag) (X:List Nat) (iG:Bool) (key:ByteArray) (f:List En->List En):Prop where
 enter:∀args W,Sem.run prog (callFunc fc args) W= .ok (.enter fc args) W
 yf:∀(w:AI) (S:List Nat) (σ :ag) (k:Nat) (l:List En) (A:Option Addr) (c:Nat) (B:Nat),ah S0 w0 w->aj w0 S0 S->p.At w S σ k->Tr.bB l->Tr.Has iG key l->(∀e∈l,Tr.ft σ e)->(l.flatMap (·.aa)++X).Nodup->(∀n∈X,σ n= σ0 n)->
  aZ w B (.slice A l.length c) (l.map (·.cell))->w0.heap.size<=B->(∀g,aaU (.slice A l.length c)=some g->g∉S)->B<=w.heap.size->l.length<=500->
  aag prog fc (#[.slice A l.length c]++cR) w (xH p S σ k B X l (f l) w)
def Ky (p:aA) (S:List Nat) (σ :ag) (k d:Nat) (key:ByteArray) (Q:List Nat) (L:List En) (w:AI) (e:Ending) (w':AI):Prop:=
 ∃(r:Rw) (ps:List Pt) (xs:List Tr.Pd) (P':List Nat) (σ':ag) (S':List Nat) (k':Nat),e= .returned (.tuple #[.slice r.A r.n r.c,.int .i64 0])/\gy w' (Cl 0 S') r ps/\Tr.Parts σ' d key ps P' L xs/\Tr.Moved σ Q σ' P'/\p.At w' S' σ' k'/\k<=k'+2*d/\ah S w w'/\aj w S S'
theorem Tr.Moved.tW{σ σ':ag}{n:Nat}{Q P':List Nat}(h:Tr.Moved (Tr.cY σ n none) Q σ' P')(hQ:∀m∈Q,σ m≠none)(hn: σ n≠none)(cg:Q.Nodup)(Tf:n∉Q):Tr.Moved σ (n::Q) σ' P':=by
 have f1:=(Tr.Moved.drop σ n).frame hQ cg (fun m hm=>by simp;rintro rfl;exact Tf hm);exact f1.trans h
theorem Tr.aE.tW{c:Nat}{σ σ':ag}{n:Nat}{Q P':List Nat}(h:Tr.aE c (Tr.cY σ n none) Q σ' P')(hQ:∀m∈Q,σ m≠none)(hn: σ n≠none)(cg:Q.Nodup)(Tf:n∉Q):Tr.aE c σ (n::Q) σ' P':=by
 have f1:=(Tr.aE.drop σ n).frame hQ cg (fun m hm=>by simp;rintro rfl;exact Tf hm);exact(f1.trans h).more (by omega)
theorem Hz{p:aA}(hp:dc p){fc:Nat}{cR:Array Value}{w0:AI}{S0:List Nat}{σ0:ag}{X:List Nat}{f:List En->List En}{iG:Bool}(key:ByteArray)(hf:Tr.eK key f)(yq:pL p fc cR w0 S0 σ0 X iG key f)
  {w:AI} {S:List Nat} {σ :ag} {k:Nat} (h:p.At w S σ k) (h0:ah S0 w0 w) (h1:aj w0 S0 S) (no:Nat) (qe:ByteArray) (depth:Nat) {P:List Nat} {L:List En} (bm:Tr.aJ σ 0 no P L) (cg:(P++X).Nodup) (hX:∀n∈X,σ n= σ0 n/\ σ n≠none)
  (yv:∀e∈L,Nd.lt e.cell.key qe=false) (gC:Nd.lt key qe=false) (oM:Tr.Has iG key L) (Z5:qe.size<=120) (ZR:depth<=10):
  aag prog 163 #[.iface p.T p.v,.int .i64 no,.string qe,.string key,.func (.func fc) #[] cR,.int .i64 depth] w (Ky p S σ k 0 qe (P++X) (f L) w):=by
 obtain⟨cs,P',rfl,g1,g2,g3,g4,g5,g6,-⟩:=bm;have tG:=g4.right;have cZ:=Nd.e8 true cs;obtain⟨q1,q2,q3,q4⟩:=id g4;subst q1;rw[aae]at cZ;have Xb:L.length<=500:=by have:Nd.sum true (L.map (·.cell))<=488:=g5;omega
 have De:=sh (oY hp h no true _ tG.1 g5 g3);have uX: σ no≠none:=by rw[g3];simp
 obtain⟨fd,rv,-,hm,wO,hd⟩:=hp.drop;have Ea:no∉P'++X:=(abN.1 (by simpa using cg)).1;have D9:(P'++X).Nodup:=(abN.1 (by simpa using cg)).2;have kT:∀m∈P'++X,σ m≠none:=fun m hm=>by
  rcases AT.1 hm with hm|hm
  ·exact(g4.mem m hm).2.2
  ·exact(hX m hm).2
 have HA:=sh h;have fZ:=sh (hp.old h);have z0:decide ((10:Int)<(depth:Int))=false:=decide_eq_false (by omega);have he:=yq.enter;have HD:=sh hd;have zl:∀m∈P'++X,Tr.cY σ no none m= σ m:=fun m hm=>Tr.dM _ _ (fun e=>Ea (by rw[<-e];exact hm));have Xw:∀e∈L,∀m∈e.aa,m∈P'++X:=fun e he m hm=>AT.2 (.inl (by rw[q2];exact abp.2 ⟨e,he,hm⟩));have HQ3:=sh q3;have T0:=sh oM;have HEO:=sh (show ∀e∈L,Tr.ft (Tr.cY σ no none) e from fun e he=>(q4 e he).congr fun m hm=>zl m (Xw e he m hm));have si:=sh (show (L.flatMap (·.aa)++X).Nodup by rw[<-q2];exact D9);have YT:=sh (show ∀n∈X,Tr.cY σ no none n= σ0 n from fun n hn=>(zl n (AT.2 (.inr hn))).trans (hX n hn).1);have zx:=sh (show ∀ σ' P2,Tr.Moved (Tr.cY σ no none) (L.flatMap (·.aa)++X) σ' P2->Tr.Moved σ (no::P'++X) σ' P2 from fun σ' P2 hm=>by
  rw[<-q2]at hm;exact Tr.Moved.tW hm kT uX D9 Ea)
 have pP:=sh (show Nd.sum true ((f L).map (·.cell))<=750 by have:=hf.grow L;have:Nd.sum true (L.map (·.cell))<=488:=g5;omega);have HRI:=sh (hf.rise L q3);have HLW:=sh (show ∀e∈f L,Nd.lt e.cell.key qe=false from fun e he=>by
  rcases hf.mem L e he with h9|h9
  ·exact yv e h9
  ·rw[h9];exact gC)
 have HNN:=sh uX;have H0:=sh h0;have H1:=sh h1;clear h hd cZ cg tG g3 g4 g5 g6 q2 q3 q4 zl Xw kT uX hX yv h0 h1 D9 Ea;go_enter func163,ntmps163
 go_wp2_with fail
 refine De.out.mono ?_;rintro e w1 ⟨ar,A,c,rfl,au⟩;have dD:=sh ar;have sL:=sh au;have J5:=sh (HD.out w1 S σ k no (hp.below HA.out ar) HNN.out);clear ar au;go_wp2_with fail
 refine J5.out.mono ?_;rintro e w2 ⟨rfl,S2,gB,dg,fD⟩;have mS:=sh ((ah.ae dD.out S).trans dg);have lj:=sh (fD.mono dD.out.size);have aI:=sL.out;have bf:aZ w2 w.heap.size (.slice A (L.map (·.cell)).length c) (L.map (·.cell)):=aI.off dg fZ.out;have VI:∀g,aaU (.slice A (L.map (·.cell)).length c)=some g->g∉S2:=fun g hg hs=>by
  have h9:=abr aI g hg;rcases fD g hs with h8|h8
  ·have:=fZ.out g h8;omega
  ·omega
 rw[aae]at bf VI;have HDO:=sh (yq.yf w2 S2 _ k L A c w.heap.size (H0.out.then mS.out H1.out) (H1.out.trans lj.out H0.out.size) gB HQ3.out T0.out HEO.out si.out YT.out bf H0.out.size VI mS.out.size Xb);clear gB dg fD bf VI aI;go_wp2_with fail
 refine HDO.out.mono ?_;rintro e w3 ⟨A',c',σ',S',U,rfl,AX,qi,Iw,df,eA,Zq,gQ⟩;have bS:ah S w w3:=mS.out.then eA (fun g hg=>by
  rcases Zq g hg with h9|h9
  ·exact lj.out g h9
  ·exact .inr h9)
 have zy:=sh bS;have zt:=sh (lj.out.trans gQ mS.out.size);have zo:=sh df;have Pu:=sh (zx.out σ' _ qi);have cM:Tr.Part σ' 0 ((f L).map (·.cell)) ((f L).flatMap (·.aa)) (f L):=⟨rfl,rfl,HRI.out,Iw⟩;have zz:=sh (il qe true ⟨A',(f L).length,c'⟩ ((f L).map (·.cell)) 0 S' w3 AX (hp.old df) (abc _) cM.right.2 pP.out);have aec:=sh (cM.parts qe HLW.out Z5 pP.out);clear eA gQ df qi Iw cM AX Zq bS;go_wp2_with fail
 refine zz.out.mono ?_;rintro e w4 ⟨b7,r,rfl,MA⟩;obtain⟨xs,CZ⟩:=aec.out;have bV:=sh (show Ky p S σ k 0 qe (no::P'++X) (f L) w (.returned (.tuple #[.slice r.A r.n r.c,.int .i64 0])) w4 from
  ⟨r,_,xs,_,σ',S',k,rfl,MA,CZ,Pu.out,hp.below zo.out b7,by omega,zy.out.trans (ah.ae b7 S),zt.out⟩)
 clear b7 MA CZ;go_wp2_with fail
 go_ret2
 exact bV.out
end Go.Proofs.YtjbcbnemdhbhbaaGreatDoor
