import Derived.Test.YtjbcbnemdhbhbaaGreatDoorB15
import Derived.Test.YtjbcbnemdhbhbaaGreatDoorB2
set_option maxRecDepth 100000
set_option linter.unusedVariables false
set_option linter.unusedSimpArgs false
set_option maxHeartbeats 40000000
open Go renaming World→AI
open Go.Lib renaming hid→sh
open Go.RowKit renaming Below→No
open Go.RowKit.Below renaming refl→IN
open Go.Value renaming ownBlock→aaU
open Go.World.ownsRow renaming lt→abr
open List renaming mem_cons→IT,mem_singleton→By
open Nat renaming le_refl→AS
open Option renaming mem_toList→abz
namespace Go.Proofs.YtjbcbnemdhbhbaaGreatDoor
open Go.Proofs.Tryz
open Go.RowKit
def Pe (f:Nat) (S:List Nat) (l:List (Nat×Nat)) (w:AI) (e:Ending) (w':AI):Prop:=e= .returned (.int .i64 0)/\∃S',rK w' f S' l/\ah S w w'/\aj w S S'
theorem Qd{w:AI}{f:Nat}{S:List Nat}{l:List (Nat×Nat)}(h:rK w f S l)(hs:Fr.Sorted l)(hl:l.length<=900)(x:Nat×Nat)(hx:Fr.ok x=true)(hn:x.2∉Fr.pg l):
  Calls prog 159 #[.pointer (some ⟨f,0,none⟩),.agg #[.int .i64 x.1,.int .i64 x.2]] w (Pe f S (Fr.ins l x) w):=by
 have hp:x.2<512:=by unfold Fr.ok at hx;simp at hx;omega
 obtain⟨⟨A,c,h1,h2,h3⟩,h6,h7⟩:=h;have H1:=sh h1;have H2:=sh h2;have H3:=sh h3;have H6:=sh h6;have H7:=sh h7;have J9:=sh fun(W:AI)=>wI x W hx;have HSE:=sh fun(W:AI) (hb:No w.heap.size w W)=>Ak (c:=c) (h2.row.1.below hb) hs (by omega) x;have c0:=(h1.cell 0).trans (bu A c l);have lf:=h1.lt;have cp:=(h1.cell (1+x.2)).trans (nH A c l x.2 hp);rw[decide_eq_false hn]at cp;have f0:=h1.frozen 0;have fp:=h1.frozen (1+x.2);obtain⟨p,VR⟩:∃p,p=x.2:=⟨_,rfl⟩;have HP:=sh VR;rw[<-VR]at cp fp hp;have HX:=sh (show ∀W,No (w.heap.size+1) (w.alloc (.cells #[.int .i64 x.1,.int .i64 x.2] 62)) W->W.cell? ⟨f,0,none⟩=some (.slice A l.length c)/\W.cell? ⟨w.heap.size,0,none⟩=some (.int .i64 x.1)/\W.cell? ⟨w.heap.size,1,none⟩=some (.int .i64 p)/\W.cell? ⟨f,1+p,none⟩=some (.bool false) from fun W hW=>by
  have q1:=af (Bk.new w 62 #[.int .i64 x.1,.int .i64 x.2]) (w':=W) (by simpa using hW);have hb:No w.heap.size w W:=((IN _ w).alloc (AS _) _).trans (hW.mono (by omega));exact⟨(hb.cell (p:=⟨f,0,none⟩) lf).trans c0,q1.cell 0,by rw[HP.out];exact q1.cell 1,(hb.cell (p:=⟨f,1+p,none⟩) lf).trans cp⟩)
 have z1:decide ((p:Int)<512)=true:=decide_eq_true (by omega);have pJ:(p:Int)<512:=by omega
 obtain⟨n,oh⟩:∃n,n=l.length:=⟨_,rfl⟩;have HN:=sh oh;rw[<-oh]at c0 HX hl HSE;clear h1 h2 h3 h6 h7 hs hx hn VR oh;go_enter func159,ntmps159
 go_wp2_with fail
 (with_reducible refine(J9.out _).mono ?_)
 rintro e w1 ⟨rfl,ar⟩;have bh:=sh (show No (w.heap.size+1) (w.alloc (.cells #[.int .i64 x.1,.int .i64 x.2] 62)) w1 from by simpa using ar);obtain⟨x0,x1,x2,x3⟩:=HX.out w1 bh.out;have lf1:f<w1.heap.size:=by have:=bh.out.size;simp at this;omega
 have lw1:w.heap.size<w1.heap.size:=by have:=bh.out.size;simp at this;omega
 clear ar;go_wp2_with fail
 go_quiet (fail)
 go_wp2_with fail
 have az:=below_drewN bh.out nq;generalize w1.drewN nq=v1 at az |-;clear x0 x1 x2 x3 lf1 lw1;have bz:=sh az;have cZ:=az.size;simp at cZ;have lf2:f<v1.heap.size:=by omega
 have lw2:w.heap.size<v1.heap.size:=by omega
 have Sp:=sh fun(W:AI) (hW:No v1.heap.size v1 W)=>HX.out W (az.trans (hW.mono (by omega)));clear az;go_region_held3 (fun W=>W.cell? ⟨f,0,none⟩=some (.slice A n c)/\W.cell? ⟨w.heap.size,0,none⟩=some (.int .i64 x.1)/\W.cell? ⟨w.heap.size,1,none⟩=some (.int .i64 p)) (first|(refine(fun h=>⟨h.1,h.2.1,h.2.2.1⟩) (Sp.out _ ?_);with_reducible (first|exact(IN _ _).drew|exact J3.out))|fail) (first
  | (go_at_call 215;go_must ((rw[HP.out]);(with_reducible refine(HSE.out _ (((IN _ w).alloc (AS _) _).trans ((bz.out.drew).mono (by omega)))).mono ?_);rintro e w3 ⟨q,rfl,aQ⟩;have J3:=sh (show No v1.heap.size v1 w3 from (IN _ _).drew.trans aQ);clear aQ)))
 have Sz:=J3.out;have aQ:No (w.heap.size+1) (w.alloc (.cells #[.int .i64 x.1,.int .i64 x.2] 62)) w3:=bz.out.trans (Sz.mono (by omega));have oo:=Sz.size;have lf3:f<w3.heap.size:=by omega
 have lw3:w.heap.size<w3.heap.size:=by omega
 have ff0:w3.frozen? ⟨f,0,none⟩=false:=((YY (((IN _ w).alloc (AS _) _).trans (aQ.mono (by omega)))).2 f 0 (by omega)).trans f0;have dt:=sh aQ;have HX3:=sh fun(W:AI) (hW:No w3.heap.size w3 W)=>HX.out W (aQ.trans (hW.mono (by omega)));clear Sz aQ;obtain⟨x0,x1,x2,x3⟩:=HX3.out w3 (IN _ _);have KG:=sh (show gL w3 0 (.slice A n c) l from by rw[HN.out];exact(ah.ae (((IN _ w).alloc (AS _) _).trans (dt.out.mono (by omega))) []).own H2.out (by simp));go_wp2_with fail
 have J7:=sh (show ∀(b:Nat) (W:AI),gL W 0 (.slice A n c) l->Bk W b 62 #[.int .i64 x.1,.int .i64 p]->aaU (.slice A n c)≠some b->Calls prog 217 #[.slice A n c,.int .i64 (Fr.spot l x),.slice (some ⟨b,0,none⟩) 1 1] W (oB 0 (.slice A n c) (Fr.ins l x) W) from fun b W h1 h2 h3=>by
  rw[HN.out]at h1 h3 |-;rw[HP.out]at h2;exact Ae A 0 b (Fr.spot l x) c l x W h1 (Nat.zero_le _) (Fr.hJ l x) (by rw[<-HN.out];omega) h2 h3)
 have WY:=sh (show aaU (.slice A n c)≠some w3.heap.size from fun e=>by have:=(abr KG.out _ e).2;omega);have KS:=sh (show gL ((w3.alloc (.cells #[.int .i64 x.1,.int .i64 p] 62)).drew) 0 (.slice A n c) l/\Bk ((w3.alloc (.cells #[.int .i64 x.1,.int .i64 p] 62)).drew) w3.heap.size 62 #[.int .i64 x.1,.int .i64 p]/\Bk ((w3.alloc (.cells #[.int .i64 x.1,.int .i64 p] 62)).drew) f 165 (ck A c l) from
  ⟨((ah.refl [] w3).alloc _).drew.own KG.out (by simp),(Bk.new w3 _ _).drew,((ah.ae (((IN _ w).alloc (AS _) _).trans (dt.out.mono (by omega))) []).bk H1.out (by simp) |>.alloc _).drew⟩)
 have HNF:=sh (show aaU (.slice A n c)≠some f from bP KG.out ((ah.ae (((IN _ w).alloc (AS _) _).trans (dt.out.mono (by omega))) []).bk H1.out (by simp)) (by decide));have MS:w3.heap.size<((w3.alloc (.cells #[.int .i64 x.1,.int .i64 p] 62)).drew).heap.size:=by simp
 go_region_law ((first
  | (go_simp;go_at_call 217;(with_reducible refine(J7.out w3.heap.size _ KS.out.1 KS.out.2.1 WY.out).mono ?_);rintro e w4 ⟨S4,A4,c4,Xd,tE,rfl,bM,Te⟩;have iO:=tE.bk KS.out.2.2 (fun hs=>HNF.out (Xd _ hs));have y0:w4.cell? ⟨f,0,none⟩=some (.slice A l.length c):=(iO.cell 0).trans (bu A c l);have y1:=iO.frozen 0;have y2:=iO.lt)
  | fail))
 all_goals
  have UY:∀g∈S4,g<w.heap.size/\A=some ⟨g,0,none⟩:=fun g hg=>by
   have h9:=Xd g hg;obtain⟨a,rfl⟩:∃a,A=some a:=by
    cases A with
    | none=>simp[aaU]at h9
    | some a=>exact⟨a,rfl⟩
   have h8:=(H2.out.row).2.2.2.2.1 a rfl;rw[h8.1]at h9;have e:a.block=g:=by simpa[aaU]using h9
   subst e;exact⟨h8.2.2,by rw[<-h8.1]⟩
  have b7:Bk w4 w.heap.size 62 #[.int .i64 x.1,.int .i64 x.2]:=tE.bk ((af (af (Bk.new w 62 #[.int .i64 x.1,.int .i64 x.2]) (w':=w3) (by have:=dt.out;simpa using this)) ((IN _ _).alloc (AS _) _)).drew) (fun hs=>by have:=(UY _ hs).1;omega);have hfb:f≠w.heap.size:=by omega
  have dO:=b7.zf (p:=⟨f,0,none⟩) (fun e=>hfb e.symm) (.slice A4 (Fr.ins l x).length c4);have OV:=iO.put 0 (.slice A4 (Fr.ins l x).length c4);have O2:=(ah.refl [f] w4).setCell (p:=⟨f,0,none⟩) (.inl (by simp)) (.slice A4 (Fr.ins l x).length c4);generalize w4.setCell ⟨f,0,none⟩ (.slice A4 (Fr.ins l x).length c4)=w5 at dO OV O2 |-;have u1:w5.cell? ⟨w.heap.size,1,none⟩=some (.int .i64 p):=by rw[HP.out];exact dO.cell 1
  have u2:=OV.frozen (1+p);have u3:w5.cell? ⟨f,1+p,none⟩=some (.bool (decide (p∈Fr.pg l))):=by
   rw[OV.cell (1+p),Array.getElem?_setIfInBounds,if_neg (by omega)];exact nH A c l p hp
  have u4:=OV.lt;have u5:=dO.lt;have HF5:=sh OV;have xO:=sh tE;have Yo:=sh O2;have uM:=sh UY;have KH:=sh bM;have Yl:=sh Te;have TM:=sh iO;clear b7 dO OV O2 UY bM Te iO tE Xd y0 y1 y2 x0 x1 x2 x3;go_wp2_with fail
  go_region_law (fail)
  all_goals
   go_wp2_with fail
   go_ret
   have VE:=bP KH.out TM.out (by decide);have AN:ah [f] w4 ((w5.setCell ⟨f,1+p,none⟩ (.bool true)).drew):=(Yo.out.setCell (p:=⟨f,1+p,none⟩) (.inl (by simp)) _).drew;have dP:=AN.own KH.out (fun g hg hs=>by rw[By]at hs;subst hs;exact VE hg);have kp:=wJ A A4 c c4 l (Fr.ins l x) p true hp (by rw[HP.out];exact Fr.L8 l x);have ZC:Bk ((w5.setCell ⟨f,1+p,none⟩ (.bool true)).drew) f 165 (ck A4 c4 (Fr.ins l x)):=by rw[<-kp];exact(HF5.out.put (1+p) _).drew
   have hA4:∀a,A4=some a->aaU (.slice A4 (Fr.ins l x).length c4)=some a.block/\a.block<w4.heap.size:=fun a ha=>by
    have h8:=(KH.out.row).2.2.2.2.1 a ha;refine⟨?_,h8.2.2⟩;rw[ha,h8.1];rfl
   have aaL:ah S w ((w5.setCell ⟨f,1+p,none⟩ (.bool true)).drew):=by
    have o3:ah S w w3:=ah.ae (((IN _ w).alloc (AS _) _).trans (dt.out.mono (by omega))) S;have o4:=(o3.alloc (.cells #[.int .i64 x.1,.int .i64 p] 62)).drew.then xO.out (fun g hg=> .inl (H3.out ⟨g,0,none⟩ (uM.out g hg).2));exact o4.then AN (fun g hg=>by rw[By]at hg;subst hg;exact .inl H6.out)
   refine⟨rfl,f::(aaU (.slice A4 (Fr.ins l x).length c4)).toList,⟨⟨A4,c4,ZC,dP,fun a ha=> ?_⟩,by simp,fun b hb=> ?_⟩,aaL,fun b hb=> ?_⟩
   ·rw[(hA4 a ha).1];simp
   ·rcases IT.1 hb with rfl|hb
    ·exact ZC.lt
    ·rw[abz]at hb
     exact(abr dP b hb).2
   ·rcases IT.1 hb with rfl|hb
    ·exact .inl H6.out
    ·rw[abz]at hb
     rcases Yl.out b hb with h9|h9
     ·left
      obtain⟨a,rfl⟩:∃a,A=some a:=by
       cases A with
       | none=>simp[aaU]at h9
       | some a=>exact⟨a,rfl⟩
      have h8:=(H2.out.row).2.2.2.2.1 a rfl;have h7:=H3.out a rfl;rw[h8.1]at h9 h7;have e:a.block=b:=by simpa[aaU]using h9
      rw[<-e];exact h7
     ·right
      simp at h9;omega
end Go.Proofs.YtjbcbnemdhbhbaaGreatDoor
