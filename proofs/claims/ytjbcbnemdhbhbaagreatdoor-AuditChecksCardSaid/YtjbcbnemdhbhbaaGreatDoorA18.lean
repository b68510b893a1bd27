import Derived.Test.YtjbcbnemdhbhbaaGreatDoorA10
import Derived.Deep.RegionHeldLaw
import Derived.Deep.DrawnRows
set_option maxRecDepth 100000
set_option linter.unusedVariables false
set_option linter.unusedSimpArgs false
set_option maxHeartbeats 40000000
open ByteArray renaming empty→abY
open Go renaming Value→No,World→AI
open Go.IntWalk renaming i64_in→acq
open Go.Lib renaming hid→sh
open Go.RowKit.Below renaming heap_setCell→aeb
open Go.Value renaming ownBlock→aaT,slice→abZ
open Go.World renaming setCell→aeY
open Int renaming toNat_natCast→acF
open List renaming ext_getElem→agN,getElem?_eq_getElem→aaG,getElem_map→acn,getElem_range→ahe,length_append→AT,length_singleton→adl,mem_append→By,mem_cons→OF,mem_cons_of_mem→abW,mem_cons_self→acr
open Nat renaming le_trans→abw,lt_of_lt_of_le→aal
namespace Go.Proofs.YtjbcbnemdhbhbaaGreatDoor
open Go.Proofs.Tryz
open Go.RowKit
open Go.PlainAid
theorem DevAt.al{w w1:AI}{g:Nat}{S:List Nat}{D:DevS}{l m nn:Nat}{B C:Nat->Nat}(h:DevAt w g S D l m nn B C)
  (hb:Bk w1 g 156 (bV l D.sec.length m D.al.off D.al.cy D.al.steps D.al.writes)) (ho:ah [g] w w1):DevAt w1 g S D.al l m nn B C:=by
 have nB:g≠l:=Bk.ne h.cells h.sec (by decide);have Xn:g≠m:=h.map.kP h.cells;have er:=D.mi;have es:=D.fk;have ew:=D.dD;have ewt:D.al.waits=D.waits:=by funext i;unfold DevS.waits;rw[er]
 refine⟨h.ok.al,by rw[es];exact hb,by rw[es];exact ho.bk h.sec (by simp;exact fun e=>nB e.symm),by rw[er];exact h.map.off ho (by simp;exact fun e=>Xn e.symm),by rw[ew];exact h.nn,?_,by rw[ewt];exact h.apart,by rw[ewt];exact h.nP,by rw[ewt];exact h.xN,fun b hb=>aal (h.old b hb) ho.size⟩;rw[ewt];intro i hi;have h1:=h.own i hi;refine ho.own h1 (fun b hb=> ?_);have bM:=cz h1 h.cells (by decide);rw[hb]at bM;simp;exact fun e=>bM (by rw[e])
theorem mD{w:AI}{g base n cap:Nat}{t:TypeId}{xs:List No}(h:w.ownsRow base t 1 (.slice (some ⟨g,0,none⟩) n cap) n xs):∃cs,Bk w g t cs:=by
 rcases h.2 with⟨h0,_⟩|⟨g',DO,cur,h0,_,hh,_⟩
 ·cases h0
 ·injection h0 with h0
  injection h0 with h0;injection h0 with h0;subst h0;exact⟨cur,hh⟩
theorem FW{w1 w2 w3:AI}{g:Nat}{S:List Nat}{D:DevS}{l m nn:Nat}{B C:Nat->Nat}(h:DevAt w1 g S D l m nn B C){k:Nat}(hk:k<D.sec.length){s:ByteArray}(hs:s.size=128)(Jb:D.writes<D.steps)
  {A:Option Addr} {c b cap:Nat} (hv:(abZ A (D.waits k).length c)=(dr D.row B C (k:Int)).getD (.slice none 0 0)) {W:AI} (hW:ah [] w1 W)
  (aq:w2.ownsRow 0 9 1 (.slice (some ⟨b,0,none⟩) ((D.waits k).length+1) cap) ((D.waits k).length+1) (strs (D.waits k)++[.string s]))
  (hg:W.grownBy w2 (abZ A (D.waits k).length c).ownBlock) (cG:(abZ A (D.waits k).length c).ownBlock=some b\/b=w1.heap.size+1) (aH:b<w2.heap.size)
  (hm:IMap prog 3 w3 m (nn+1) (fun j=>if j=(k:Int)then some (.slice (some ⟨b,0,none⟩) ((D.waits k).length+1) cap)else dr D.row B C j)) (Bo:w2.grownBy w3 (some m)):
  ∃S',Dev (w3.setCell ⟨g,5,none⟩ (.int .i64 (D.writes+1))) g S' { D with row:=D.row++[(k,s)],writes:=D.writes+1 }/\ah S w1 (w3.setCell ⟨g,5,none⟩ (.int .i64 (D.writes+1)))/\aj w1 S S':=by
 obtain⟨i1,i2,i3,i4⟩:=h.xN;have nB:g≠l:=Bk.ne h.cells h.sec (by decide);have Xn:g≠m:=h.map.kP h.cells;have xI:l≠m:=h.map.kP h.sec;have nh:∀x,(abZ A (D.waits k).length c).ownBlock=some x->D.waits k≠[]/\x=B k:=by
  intro x hx;rw[hv]at hx;unfold dr at hx;rw[acF]at hx;by_cases hn:bc D.row k=[]
  ·rw[if_neg (fun e=>e.2 hn)]at hx
   simp[aaT]at hx
  ·rw[if_pos ⟨by omega,hn⟩]at hx
   simp[aaT]at hx;exact⟨hn,hx.symm⟩
 have hT:∀x,(abZ A (D.waits k).length c).ownBlock=some x->x∈S/\x≠g/\x≠l/\x≠m:=by
  intro x hx;obtain⟨hn,rfl⟩:=nh x hx;have h1:=h.own k hn;obtain⟨cs,fy⟩:=mD h1;exact⟨i4 k hn,Bk.ne fy h.cells (by decide),h.nP k hn,h.map.kP fy⟩
 let T:List Nat:=(match (abZ A (D.waits k).length c).ownBlock with|some x=>[x]|none=>[])++[m,g]
 have Wt:∀x,x∈T->(abZ A (D.waits k).length c).ownBlock=some x\/x=m\/x=g:=by
  intro x hx;rcases By.1 hx with hx|hx
  ·left
   revert hx
   cases (abZ A (D.waits k).length c).ownBlock with
   | none=>simp
   | some y=>intro hx;simp at hx;rw[hx]
  ·right
   simpa using hx
 have Ec:ah T w1 w2:=(hW.mono (by simp)).grown hg (fun x hx=> .inl (By.2 (.inl (by rw[hx];simp))));have UR:ah T w1 w3:=Ec.grown Bo (fun x hx=>by injection hx with hx;subst hx;exact .inl (By.2 (.inr (by simp))));have O6:ah T w1 (w3.setCell ⟨g,5,none⟩ (.int .i64 (D.writes+1))):=UR.setCell (.inl (By.2 (.inr (by simp)))) _;have ngT:∀x,(abZ A (D.waits k).length c).ownBlock=some x->x≠g:=fun x hx=>(hT x hx).2.1;have hlT:l∉T:=fun hx=>by
  rcases Wt l hx with hx|hx|hx
  ·exact(hT l hx).2.2.1 rfl
  ·exact xI hx
  ·exact nB hx.symm
 have U6:Bk w2 g 156 (bV l D.sec.length m D.off D.cy D.steps D.writes):=
  (hg.block g (aal h.cells.lt hW.size) (fun e=>(ngT g e.symm) rfl)).trans (hW.bk h.cells (by simp))
 have aeE:Bk w3 g 156 (bV l D.sec.length m D.off D.cy D.steps D.writes):=(Bo.block g U6.lt (fun e=>Xn (by injection e))).trans U6;have aeF:Bk (w3.setCell ⟨g,5,none⟩ (.int .i64 (D.writes+1))) g 156 (bV l D.sec.length m D.off D.cy D.steps (D.writes+1)):=aeE.put 5 _;obtain⟨cs,fy⟩:=mD aq;have Kt:b≠g:=Bk.ne fy U6 (by decide);have jf:IMap prog 3 w2 m nn (dr D.row B C):=h.map.of_heap ((hg.block m (aal h.map.lt hW.size) (fun e=>(hT m e.symm).2.2.2 rfl)).trans (hW.block m h.map.lt (by simp)));have vY:b≠m:=jf.kP fy;have fV:b≠l:=by
  intro e;rcases cG with e1|e1
  ·exact(hT b e1).2.2.1 e
  ·have:=h.sec.lt;omega
 have ax:=(ah.refl [m] w2).grown Bo (fun x hx=>by injection hx with hx;exact .inl (by simp[hx])) |>.own aq (fun x hx=>by
  have:x=b:=by simpa[aaT]using hx.symm
  subst this;simpa using vY)
 have cd:=((ah.refl [g] w3).setCell (p:=⟨g,5,none⟩) (.inl (by simp)) (.int .i64 (D.writes+1))).own ax (fun x hx=>by
  have:x=b:=by simpa[aaT]using hx.symm
  subst this;simpa using Kt)
 have ae1:∀j,j≠k->D.waits j≠[]->B j∉T:=by
  intro j hj hn hx;obtain⟨AF,ZM⟩:=mD (h.own j hn);rcases Wt _ hx with hx|hx|hx
  ·obtain⟨QX,e⟩:=nh _ hx
   exact hj (h.apart j k hn QX e)
  ·exact h.map.kP ZM hx
  ·exact Bk.ne ZM h.cells (by decide) hx
 have hbB:∀j,j≠k->D.waits j≠[]->b≠B j:=by
  intro j hj hn e;rcases cG with e1|e1
  ·obtain⟨QX,e2⟩:=nh _ e1
   exact hj (h.apart j k hn QX (by rw[<-e,e2]))
  ·have:=h.old _ (i4 j hn);omega
 have wk:∀j,({ D with row:=D.row++[(k,s)],writes:=D.writes+1 }:DevS).waits j=if k=j then D.waits j++[s]else D.waits j:=fun j=>ik D.row k j s;have e5:∀j,(if j=k then b else B j)=(if j=k then b else B j):=fun _=>rfl;refine⟨b::S,⟨l,m,nn+1,(fun j=>if j=k then b else B j),(fun j=>if j=k then cap else C j),?_⟩,O6.mono ?_,?_⟩
 ·refine⟨?_,aeF,O6.bk h.sec hlT,?_,?_,?_,?_,?_,?_,?_⟩
  ·refine⟨h.ok.some,h.ok.most,h.ok.Oj,?_,h.ok.Gl,h.ok.AZ,?_,?_⟩
   ·intro x hx
    rcases By.1 hx with hx|hx
    ·exact h.ok.rows x hx
    ·obtain rfl:x=(k,s):=by simpa using hx
     exact⟨hk,hs⟩
   ·have:=h.ok.wH;simp only[AT,adl];omega
   ·show D.writes+1<=D.steps;omega
  ·refine IMap.of_heap (w:=w3) ?_ (aeb w3 _ _ m (fun e=>Xn e.symm))
   have:dr (D.row++[(k,s)]) (fun j=>if j=k then b else B j) (fun j=>if j=k then cap else C j)=(fun j=>if j=(k:Int)then some (.slice (some ⟨b,0,none⟩) ((D.waits k).length+1) cap)else dr D.row B C j):=by
    funext j
    unfold dr;rw[ik];by_cases hj:j=(k:Int)
    ·subst hj
     rw[acF,if_pos rfl,if_pos rfl,if_pos ⟨by omega,by simp⟩];simp only[if_true,AT,adl];rfl
    ·rw[if_neg hj]
     by_cases I2:0<=j
     ·have Gx:j.toNat≠k:=by omega
      have zS:¬ (k=j.toNat):=fun e=>Gx e.symm;simp only[if_neg zS,if_neg Gx]
     ·rw[if_neg (fun e=>I2 e.1),if_neg (fun e=>I2 e.1)]
   show IMap _ _ w3 m (nn+1) (dr (D.row++[(k,s)]) _ _);rw[this];exact hm
  ·have:=h.nn
   show ((nn+1:Nat):Int)<=D.writes+1;omega
  ·intro j hj
   rw[wk]at hj |-;by_cases Gx:k=j
   ·subst Gx
    simp only[if_pos,AT,adl];have:strs (D.waits k++[s])=strs (D.waits k)++[.string s]:=by simp[strs]
    rw[this];exact cd
   ·rw[if_neg Gx]at hj |-
    have aah:j≠k:=fun e=>Gx e.symm;simp only[if_neg aah];exact O6.own (h.own j hj) (fun x hx=>by
     have:x=B j:=by simpa[aaT]using hx.symm
     subst this;exact ae1 j aah hj)
  ·intro i j hi hj KA
   rw[wk]at hi hj;by_cases h1:i=k
   ·by_cases h2:j=k
    ·rw[h1,h2]
    ·simp only[if_pos h1,if_neg h2]at KA
     rw[if_neg (fun e=>h2 e.symm)]at hj;exact absurd KA (hbB j h2 hj)
   ·by_cases h2:j=k
    ·simp only[if_neg h1,if_pos h2]at KA
     rw[if_neg (fun e=>h1 e.symm)]at hi;exact absurd KA.symm (hbB i h1 hi)
    ·simp only[if_neg h1,if_neg h2]at KA
     rw[if_neg (fun e=>h1 e.symm)]at hi;rw[if_neg (fun e=>h2 e.symm)]at hj;exact h.apart i j hi hj KA
  ·intro i hi
   rw[wk]at hi;by_cases h1:i=k
   ·simp only[if_pos h1];exact fV
   ·simp only[if_neg h1]
    rw[if_neg (fun e=>h1 e.symm)]at hi;exact h.nP i hi
  ·refine⟨abW _ i1,abW _ i2,abW _ i3,fun i hi=> ?_⟩
   rw[wk]at hi;by_cases h1:i=k
   ·simp only[if_pos h1];exact acr
   ·simp only[if_neg h1]
    rw[if_neg (fun e=>h1 e.symm)]at hi;exact abW _ (i4 i hi)
  ·intro x hx
   have cZ:w2.heap.size<=(w3.setCell ⟨g,5,none⟩ (.int .i64 (D.writes+1))).heap.size:=by
    have:=Bo.size;simpa[aeY]using this
   rcases OF.1 hx with rfl|hx
   ·omega
   ·exact aal (h.old x hx) O6.size
 ·intro x hx
  left;rcases Wt x hx with hx|hx|hx
  ·exact(hT x hx).1
  ·rw[hx];exact i3
  ·rw[hx];exact i1
 ·intro x hx
  rcases OF.1 hx with rfl|hx
  ·rcases cG with e1|e1
   ·exact .inl (hT _ e1).1
   ·exact .inr (by omega)
  ·exact .inl hx
def Ci (v:No):List Nat:=match v.ownBlock with|some x=>[x]|none=>[]
theorem Jy{w:AI}{g:Nat}{S:List Nat}{D:DevS}{l m nn:Nat}{B C:Nat->Nat}(h:DevAt w g S D l m nn B C)(k:Nat){A:Option Addr}{n c:Nat}(hv:(abZ A n c)=(dr D.row B C (k:Int)).getD (.slice none 0 0)):
  g∉Ci (.slice A n c)/\l∉Ci (.slice A n c)/\m∉Ci (.slice A n c):=by
 unfold Ci;rw[hv];unfold dr;rw[acF];by_cases hn:bc D.row k=[]
 ·rw[if_neg (fun e=>e.2 hn)]
  simp[aaT]
 ·rw[if_pos ⟨by omega,hn⟩]
  have h1:=h.own k hn;obtain⟨cs,fy⟩:=mD h1;simp[aaT];exact⟨Bk.ne h.cells fy (by decide),fun e=>h.nP k hn e.symm,fun e=>h.map.kP fy e.symm⟩
theorem uG:(prog.info? 9).map (fun i=>(i.zero,i.size,i.bytes))=some (some (.string abY),1,16):=by kernel_rfl
theorem dJ{g:Nat}{S:List Nat}{D D':DevS}{r r':No}{w w':AI}(hD:D=D')(hr:r=r')(h:∃S',Dev w' g S' D'/\ah S w w'/\aj w S S'):gv g S D r w (.returned r') w':=by
 subst hD;subst hr;exact⟨rfl,h⟩
theorem D0{g:Nat}{S:List Nat}{D:DevS}{w:AI}(hd:Dev w g S D)(i:Int)(s:ByteArray)(hb:D.steps<=1000000000)(cZ:s.size<=maxLen):
  Calls prog 118 #[ptr g,.int .i64 i,.string s] w (gv g S (D.write i s).1 (.int .i64 (D.write i s).2) w):=by
 have qZ:=sh hd;unfold maxLen at cZ;cases dw:D.ny i with
 | false=>
  have HL:Hid (D.write i s=(D,1)):=show _=_ by unfold DevS.write;rw[dw];rfl
  obtain⟨l,m,nn,B,C,h⟩:=hd;clear h;go_enter func118,ntmps118
  go_wp2_with (go_at_call 178;refine(jb qZ.out i).mono ?_;rintro e w2 ⟨rfl,rfl⟩;rw[dw])
  go_ret
  exact dJ (by rw[HL.out]) (by rw[HL.out];rfl) ⟨S,qZ.out,ah.refl _ _,aj.refl _ _⟩
 | true=>
  by_cases IK:s.size≠128
  ·have HL:Hid (D.write i s=(D,1)):=show _=_ by unfold DevS.write;rw[dw];simp[IK]
   have q1:((s.size:Int)==128)=false:=by simp;omega
   have q2:((s.size:Int) != 128)=true:=by simp;omega
   obtain⟨l,m,nn,B,C,h⟩:=hd;clear h IK;go_enter func118,ntmps118
   go_wp2_with (go_at_call 178;refine(jb qZ.out i).mono ?_;rintro e w2 ⟨rfl,rfl⟩;rw[dw])
   go_ret
   exact dJ (by rw[HL.out]) (by rw[HL.out];rfl) ⟨S,qZ.out,ah.refl _ _,aj.refl _ _⟩
  ·have IK:s.size=128:=by omega
   have q1:((s.size:Int)==128)=true:=by simp;omega
   have q2:((s.size:Int) != 128)=false:=by simp;omega
   have TQ:=sh IK;obtain⟨l,m,nn,B,C,h⟩:=hd;have HD:=sh h;cases fA:D.ee with
   | false=>
    have HL:Hid (D.write i s=(D.al,6)):=show _=_ by unfold DevS.write;rw[dw,TQ.out,fA];rfl
    clear h IK;go_enter func118,ntmps118
    go_wp2_with (first
     | (go_at_call 178;refine(jb qZ.out i).mono ?_;rintro e w2 ⟨rfl,rfl⟩;rw[dw])
     | (go_at_call 173;refine(mG HD.out.cells HD.out.ok hb).mono ?_;rintro e w2 ⟨rfl,aC,jZ⟩;rw[fA];have bm:=sh aC;have fX:=sh jZ;clear aC jZ)
     | fail)
    go_ret
    exact dJ (by rw[HL.out]) (by rw[HL.out];rfl) ⟨S,⟨l,m,nn,B,C,HD.out.al bm.out fX.out⟩,fX.out.mono (fun x hx=> .inl (by simp at hx;rw[hx];exact HD.out.xN.1)),aj.refl _ _⟩
   | true=>
    obtain⟨i0,i1⟩:=DevS.gM.1 dw;obtain⟨k,rfl⟩:∃k:Nat,i=(k:Int):=⟨i.toNat,by omega⟩;have hk:k<D.sec.length:=by omega
    have HL:Hid (D.write (k:Int) s=({ D.al with row:=D.al.row++[(k,s)],writes:=D.al.writes+1 },0)):=show _=_ by unfold DevS.write;rw[dw,TQ.out,fA,D.mi,D.dD];rfl
    have bF:D.off=false:=by unfold DevS.ee at fA;simp at fA;exact fA.1
    have HWS:Hid (D.al.writes<D.al.steps):=show _<_ by
     have:=h.ok.il;rw[D.dD];unfold DevS.al;rw[bF];show D.writes<D.steps+1;omega
    have hwr:D.al.writes<=1000000000:=by rw[D.dD];have:=h.ok.il;omega
    have amp:0<=D.al.writes:=by rw[D.dD];exact h.ok.Hm
    have HK:=sh hk;clear h IK bF i1 hk;go_enter func118,ntmps118
    go_wp2_with (first
     | (go_at_call 178;refine(jb qZ.out _).mono ?_;rintro e w2 ⟨rfl,rfl⟩;rw[dw])
     | (go_at_call 173;refine(mG HD.out.cells HD.out.ok hb).mono ?_;rintro e w1 ⟨rfl,ar,rk⟩;rw[fA];have bh:=sh ar;have hJ:=sh rk;clear ar rk)
     | fail)
    have h1:=HD.out.al bh.out hJ.out;have PW:=sh (show ah S w w1 from hJ.out.mono (fun x hx=> .inl (by simp at hx;rw[hx];exact HD.out.xN.1)));have BI:D.al.sec.length=D.sec.length:=by rw[D.fk]
    have wX:=sh (show k<D.al.sec.length by rw[BI];exact HK.out);clear BI HK bh hJ HD qZ fA dw hb;generalize D.al=E at *;obtain⟨A,c,bZ,fJ,aq,hv⟩:=B6 h1 k (by have:=h1.ok.most;have:=wX.out;omega);obtain⟨c0,c1,c2,c3,c4,c5⟩:=h1.cells.KI;have g5:=h1.cells.frozen 5;have hlen:(E.waits k).length<=1000000000:=by
     have t1:=fR E.row k;have t2:=h1.ok.wH;unfold DevS.waits;omega
    have HV:=sh hv;have ft:=sh aq;have H1:=sh h1;have vO:=sh fJ;clear hv aq fJ h1 c0 c2 c3 c4;have HT:=sh (Jy H1.out k HV.out);have bD:Hid (∀W,ah (Ci (.slice A (E.waits k).length c)) w1 W->W.cell? ⟨g,1,none⟩=some (.map (some m))/\(Instr.lookup 154 (.map (some m)) (.int .i64 (k:Int)) false).run prog W= .ok (.slice A (E.waits k).length c) W):=fun W hW=>by
     obtain⟨t1,t2,t3⟩:=HT.out;refine⟨(hW.cell (p:=⟨g,1,none⟩) H1.out.cells.lt t1).trans c1,?_⟩;have h2:=(H1.out.map.off hW t3).look (t:=154) underlying3 underlying154 (yp W) (i:=(k:Int)) (C0 (by omega) (by have:=H1.out.ok.most;have:=wX.out;omega));rw[<-HV.out]at h2;exact h2
    have HO:=sh (ah.refl (Ci (.slice A (E.waits k).length c)) w1);obtain⟨inf,hi,BR,pS,zi⟩:=info_parts uG;have HI:=sh hi;have HZ0:=sh BR;have Kp:=sh pS;have C9:=sh zi;clear hi BR pS zi;have HUP:Hid (∀(W W2:AI) (b cap:Nat),ah [] w1 W->W.grownBy W2 (abZ A (E.waits k).length c).ownBlock->∃w3,(Instr.mapUpdate 154 (.map (some m)) (.int .i64 (k:Int)) (.slice (some ⟨b,0,none⟩) ((E.waits k).length+1) cap)).run prog W2= .ok () w3/\
      IMap prog 3 w3 m (nn+1) (fun j=>if j=(k:Int)then some (.slice (some ⟨b,0,none⟩) ((E.waits k).length+1) cap)else dr E.row B C j)/\W2.grownBy w3 (some m)/\W2.cell? ⟨g,1,none⟩=some (.map (some m))/\w3.cell? ⟨g,1,none⟩=some (.map (some m))/\w3.cell? ⟨g,5,none⟩=some (.int .i64 E.writes)/\w3.frozen? ⟨g,5,none⟩=false):=fun W W2 b cap hW hg=>by
     obtain⟨t1,t2,t3⟩:=HT.out;have hO:ah (Ci (.slice A (E.waits k).length c)) w1 W2:=(hW.mono (by simp)).grown hg (fun x hx=> .inl (by rw[Ci,hx];simp));have Kt:Bk W2 g 156 _:=hO.bk H1.out.cells t1;obtain⟨w3,r1,r2,r3⟩:=(H1.out.map.off hO t3).update (t:=154) underlying3 underlying154 (by have:=H1.out.nn;unfold maxLen;omega) (C0 (i:=(k:Int)) (by omega) (by have:=H1.out.ok.most;have:=wX.out;omega)) (.slice (some ⟨b,0,none⟩) ((E.waits k).length+1) cap);have aN:Bk w3 g 156 _:=(r3.block g Kt.lt (fun e=>(H1.out.map.kP H1.out.cells) (by injection e))).trans Kt;exact⟨w3,r1,r2,r3,by simpa using Kt.cell 1,by simpa using aN.cell 1,by simpa using aN.cell 5,aN.frozen 5⟩
    have aiz:=(bD.out _ HO.out.drew).2;have aiA:=(bD.out _ (HO.out.alloc (.cells #[.string s] 9)).drew).2;clear bZ;go_region_held3 (fun W=>W.cell? ⟨g,1,none⟩=some (.map (some m)))
     (first|exact(bD.out _ HO.out.drew).1|exact(bD.out _ (HO.out.alloc _).drew).1|assumption)
     ((refine step_append_lies _ (by rfl) _ _ 72 (by rfl) 0 9 inf (.string abY) 1 16 underlying72 HI.out HZ0.out Kp.out C9.out (by rfl) (by omega) _ _ _ (by rfl) (ft.out.alloc _) _ 1 1 [.string s] (by rfl) (by rfl) (World.news_of_block (heap_alloc_new w1 _)) (Ox [s]) (by omega) (by unfold maxLen;omega) (by omega) (Nat.zero_le _) (w1.heap.size+1) (by simp) ?_;intro b cap w2 aU bE cG aH;obtain⟨w3,amg,kU,Bo,alc,ZG,Ku,Gv⟩:=HUP.out _ w2 b cap (((ah.refl [] w1).alloc _).drew) bE;have HM3:=sh kU;have HG3:=sh Bo;have XX:=sh bE;have pW:=sh aU;have Dv:=sh cG;clear kU Bo bE aU cG))
    all_goals
     go_wp2_with fail
     go_ret
     exact dJ (by rw[HL.out]) (by rw[HL.out];rfl) (by
      obtain⟨S',hd',ho',hf'⟩:=FW H1.out wX.out TQ.out HWS.out HV.out (((ah.refl [] w1).alloc _).drew) pW.out XX.out Dv.out aH HM3.out HG3.out;refine⟨S',hd',PW.out.trans ho',fun x hx=> ?_⟩;rcases hf' x hx with h|h
      ·exact .inl h
      ·exact .inr (abw PW.out.size h))
theorem IH{w1 wr W:AI}{g:Nat}{S X:List Nat}{D D':DevS}{l m nn m':Nat}{B C:Nat->Nat}(h:DevAt w1 g S D l m nn B C)(ho:ah (l::X) w1 wr)(hX:∀x∈X,w1.heap.size<=x)
  (hl:Bk wr l 9 (strs D'.sec).toArray) (hk:D'.Ok) (bd:D'.row=[]) (BI:D'.sec.length=D.sec.length) (hg:Bk W g 156 (bV l D.sec.length m' D'.off D'.cy D'.steps D'.writes))
  (hm:IMap prog 3 W m' 0 (fun _=>none)) (hW:ah [g] wr W) (I5:w1.heap.size<=m'):∃S',Dev W g S' D'/\ah S w1 W/\aj w1 S S':=by
 obtain⟨i1,i2,i3,i4⟩:=h.xN;have nB:g≠l:=Bk.ne h.cells h.sec (by decide);have rk:ah (g::l::X) w1 W:=(ho.mono (fun x hx=> .inl (abW _ hx))).then hW (fun x hx=> .inl (by simp at hx;simp[hx]));have hw:∀i,D'.waits i=[]:=fun i=>by unfold DevS.waits;rw[bd];rfl
 refine⟨m'::S,⟨l,m',0,B,C,⟨hk,by rw[BI];exact hg,hW.bk hl (by simpa using fun e=>nB e.symm),?_,by have:=hk.Hm;omega,fun i hi=>absurd (hw i) hi,fun i _ hi=>absurd (hw i) hi,fun i hi=>absurd (hw i) hi,⟨abW _ i1,abW _ i2,acr,fun i hi=>absurd (hw i) hi⟩,?_⟩⟩,?_,?_⟩
 ·rw[bd]
  have:dr [] B C=fun _=>none:=by funext i;unfold dr;simp[bc]
  rw[this];exact hm
 ·intro b hb
  rcases OF.1 hb with rfl|hb
  ·exact hm.lt
  ·exact aal (h.old b hb) rk.size
 ·refine rk.mono (fun x hx=> ?_)
  rcases OF.1 hx with rfl|hx
  ·exact .inl i1
  ·rcases OF.1 hx with rfl|hx
   ·exact .inl i2
   ·exact .inr (hX x hx)
 ·intro b hb
  rcases OF.1 hb with rfl|hb
  ·exact .inr I5
  ·exact .inl hb
theorem Ny(w:AI)(p:Addr)(u:No):IMap prog 3 ((w.setCell p u).alloc (.map #[] 0)) w.heap.size 0 (fun _=>none):=by
 have h:=IMap.made (w.setCell p u) prog 3;have e:(w.setCell p u).heap.size=w.heap.size:=by simp[aeY]
 rw[e]at h;exact h
def cX (D:DevS) (left:Int->Bool):List ByteArray:=(List.range D.sec.length).map fun(i:Nat)=>if left (i:Int)=true then D.sec.getD i abY else D.aF i
theorem CN(D:DevS)(left:Int->Bool):(cX D left).length=D.sec.length:=by simp[cX]
theorem EW{D:DevS}{i:Nat}(h:D.waits i=[]):D.aF i=D.sec.getD i abY:=by unfold DevS.aF;rw[h];rfl
theorem zG(row:List (Nat×ByteArray))(B C:Nat->Nat)(i:Nat):(dr row B C (i:Int)).isSome= !(bc row i).isEmpty:=by
 unfold dr;rw[acF];cases hw:bc row i with
 | nil=>rw[if_neg (fun e=>e.2 rfl)];rfl
 | cons a b=>rw[if_pos ⟨by omega,by simp⟩];rfl
theorem wP(D:DevS)(B C:Nat->Nat):cX D (fun i=>(dr D.row B C i).isSome)=D.sec:=by
 refine agN (by simp[cX]) (fun i h1 h2=> ?_);simp only[cX,acn,ahe];have e:D.sec.getD i abY=D.sec[i]:=by rw[List.getD_eq_getElem?_getD,aaG h2];rfl
 rw[zG];by_cases hn:bc D.row i=[]
 ·rw[hn,EW (by exact hn),e];simp
 ·have:(!(bc D.row i).isEmpty)=true:=by cases hw:bc D.row i with
   | nil=>exact absurd hw hn
   | cons a b=>rfl
  rw[this,if_pos rfl,e]
theorem zD(D:DevS)(left:Int->Bool)(k:Nat)(hk:k<D.sec.length):
  (strs (cX D (fun j=>left j&& !decide (j=(k:Int))))).toArray=(strs (cX D left)).toArray.setIfInBounds k (.string (D.aF k)):=by
 have e:cX D (fun j=>left j&& !decide (j=(k:Int)))=(cX D left).set k (D.aF k):=by
  refine agN (by simp[cX]) (fun i h1 h2=> ?_);rw[List.getElem_set];simp only[cX,acn,ahe];by_cases hik:k=i
  ·subst hik
   simp
  ·have:¬ ((i:Int)=(k:Int)):=by omega
   rw[if_neg hik];simp[this]
 rw[e];simp[strs,List.map_set]
theorem CM(D:DevS)(left:Int->Bool)(h:∀i,left i=false):cX D left=D.synced.sec:=by
 unfold cX DevS.synced;simp[h]
theorem FU{row:List (Nat×ByteArray)}{B C:Nat->Nat}{i:Int}{v:No}(h:dr row B C i=some v):
  ∃k n,i=((k:Nat):Int)/\(bc row k).length=n+1/\v= .slice (some ⟨B k,0,none⟩) (n+1) (C k):=by
 unfold dr at h;by_cases hc:0<=i/\bc row i.toNat≠[]
 ·rw[if_pos hc]at h
  injection h with h;have h1:=List.length_pos_iff.2 hc.2;refine⟨i.toNat,(bc row i.toNat).length-1,by omega,by omega,?_⟩;rw[<-h];have:(bc row i.toNat).length-1+1=(bc row i.toNat).length:=by omega
  rw[this]
 ·rw[if_neg hc]at h
  cases h
theorem xq{g:Nat}{S:List Nat}{D:DevS}{w:AI}(hd:Dev w g S D)(hb:D.steps<=1000000000):
  Calls prog 116 #[ptr g] w (gv g S D.sync.1 (.int .i64 D.sync.2) w):=by
 obtain⟨l,m,nn,B,C,h⟩:=hd;have HD:=sh h;cases fA:D.ee with
 | false=>
  have HL:Hid (D.sync=(D.al,6)):=show _=_ by unfold DevS.sync;rw[fA];rfl
  clear h;go_enter func116,ntmps116
  go_wp2_with (go_at_call 173;refine(mG HD.out.cells HD.out.ok hb).mono ?_;rintro e w2 ⟨rfl,aC,jZ⟩;rw[fA];have bm:=sh aC;have fX:=sh jZ;clear aC jZ)
  go_ret
  exact dJ (by rw[HL.out]) (by rw[HL.out];rfl) ⟨S,⟨l,m,nn,B,C,HD.out.al bm.out fX.out⟩,fX.out.mono (fun x hx=> .inl (by simp at hx;rw[hx];exact HD.out.xN.1)),aj.refl _ _⟩
 | true=>
  have HL:Hid (D.sync=(D.al.synced,0)):=show _=_ by unfold DevS.sync;rw[fA];rfl
  have kV:=@run_makeMap prog;clear h;go_enter func116,ntmps116
  go_wp2_with (first
   | (go_at_call 173;refine(mG HD.out.cells HD.out.ok hb).mono ?_;rintro e w1 ⟨rfl,ar,rk⟩;rw[fA];have H1:=sh (HD.out.al ar rk);have hJ:=sh rk;clear ar rk;obtain⟨c0,c1,c2,c3,c4,c5⟩:=H1.out.cells.KI;clear c2 c3 c4 c5)
   | (at_range;refine pH rfl _ 154 rfl 72 underlying3 underlying154 rfl H1.out.map ?_;intro w2 pM su Mn cZ;have HRG:=sh su;have XX:=sh Mn;have O4:=sh cZ;clear su Mn cZ)
   | fail)
  go_frame
  have Km:Hid (l≠m/\g≠m/\g≠l):=⟨H1.out.map.kP H1.out.sec,H1.out.map.kP H1.out.cells,Bk.ne H1.out.cells H1.out.sec (by decide)⟩;have hwr:D.al.writes<=1000000000:=by rw[D.dD];have:=HD.out.ok.il;omega
  generalize D.al=E at *;clear c0 c1;go_loopw [3] (fun _ wr=>∃left pM,ed prog 3 wr m w1.heap.size nn (dr E.row B C) left pM/\Bk wr l 9 (strs (cX E left)).toArray/\ah [l,w1.heap.size] w1 wr) (fun _ wr=>wr.rangeLeft m w1.heap.size)
  case atStart=>
   have hO:ah [] w1 w2:=(ah.refl [] w1).grown XX.out (fun x hx=>by cases hx);exact⟨_,_,HRG.out,by rw[wP];exact hO.bk H1.out.sec (by simp),hO.mono (by simp)⟩
  case round=>
   obtain⟨left,akw,aa3,QH,Ti⟩:=hrel;have YC:=sh aa3;have TX:=sh QH;have FZ:=sh Ti;clear aa3 QH Ti;go_wp2_with (first
    | (at_next;refine qO rfl _ rfl underlying3 rfl YC.out ?_ ?_)
    | fail)
   ·intro lS
    have bX:=sh lS;clear lS;have Ph:Bk wr g 156 _:=FZ.out.bk H1.out.cells (by have:=H1.out.cells.lt;have:=Km.out;simp;omega);have HG0:=sh Ph;have gb:=Ph.KI.2.1;have bU:=Ph.frozen 1;have aeO:=(Ph.alloc (.map #[] 0)).KI.2.1;have we:=(Ph.alloc (.map #[] 0)).frozen 1;have Vt:=Ph.lt;clear Ph;go_wp2_with fail
    go_ret
    exact dJ (by rw[HL.out]) (by rw[HL.out];rfl) (by
     have bd:=CM E left bX.out;obtain⟨S',h1,h2,h3⟩:=IH (D':=E.synced) (m':=wr.heap.size) (W:=(wr.setCell ⟨g,1,none⟩ (.map (some wr.heap.size))).alloc (.map #[] 0)) H1.out (X:=[w1.heap.size]) FZ.out (by simp) (by rw[<-bd];exact TX.out) H1.out.ok.synced rfl (by simp[DevS.synced])
      ((HG0.out.put 1 _).alloc _) (Ny wr _ _) (((ah.refl [g] wr).setCell (.inl (by simp)) _).alloc _) FZ.out.size
     exact⟨S',h1,(hJ.out.mono (fun x hx=> .inl (by simp at hx;rw[hx];exact H1.out.xN.1))).trans h2,fun x hx=>(h3 x hx).imp_right (abw hJ.out.size)⟩)
   ·intro i v w3 Y3 hV aaq aa4 IU Vr Wf Ei
    obtain⟨k,n,rfl,hn,rfl⟩:=FU hV;have jg:ah [l,w1.heap.size] w1 w3:=FZ.out.grown Vr (fun x hx=>by injection hx with hx;exact .inl (by simp[hx]));have Wl:E.waits k≠[]:=by unfold DevS.waits;intro e;rw[e]at hn;simp at hn
    have hk:k<E.sec.length:=by
     rcases Nat.lt_or_ge k E.sec.length with h|h
     ·exact h
     ·exact absurd (DevS.sD H1.out.ok h) Wl
    obtain⟨t1,t2,t3⟩:=Km.out;have hgn:g∉[l,w1.heap.size]:=by have:=H1.out.cells.lt;simp;omega
    have hBn:B k∉[l,w1.heap.size]:=by have:=H1.out.nP k Wl;have:=H1.out.old _ (H1.out.xN.2.2.2 k Wl);simp;omega
    have ax:=jg.own (H1.out.own k Wl) (fun b hb=>by
     have:b=B k:=by simpa[aaT]using hb.symm
     subst this;exact hBn)
    have aan:E.aF k=(E.waits k)[n]'(by unfold DevS.waits;omega):=by
     unfold DevS.aF;have QX:(E.waits k).length=n+1:=hn;rw[List.getLastD_eq_getLast?,List.getLast?_eq_getElem?,aaG (by omega)];simp[QX]
    obtain⟨b,o,ZD,aeI,Ef⟩:=Sl.dh ax n (.string (E.aF k)) (by rw[aan];simp[strs]);injection ZD with ZD;injection ZD with ar rk;subst ar;subst rk;rw[Nat.zero_add]at Ef;have se:Bk w3 l 9 (strs (cX E left)).toArray:=(Vr.block l TX.out.lt (fun e=>by have:=H1.out.sec.lt;injection e with e;omega)).trans TX.out;have uj:=se.frozen k;have hcg:w3.cell? ⟨g,0,none⟩=some (.slice (some ⟨l,0,none⟩) E.sec.length E.sec.length):=(jg.bk H1.out.cells hgn).KI.1;have iV:k<(cX E left).length:=by rw[CN];exact hk
    have ni:w3.cell? ⟨l,k,none⟩=some (.string (cX E left)[k]):=by rw[se.cell k];simp[strs,iV]
    have rj:n<1000000000:=by
     have t1:=fR E.row k;have t2:=H1.out.ok.wH;omega
    have hBl:B k≠l:=H1.out.nP k Wl;have i0:(0:Int)<=(k:Int):=by omega
    have i1:(k:Int)<(E.sec.length:Int):=by omega
    have bD:Hid (∀W,ah [l] w3 W->W.cell? ⟨g,0,none⟩=some (.slice (some ⟨l,0,none⟩) E.sec.length E.sec.length)/\W.cell? ⟨B k,n,none⟩=some (.string (E.aF k))):=fun W hW=>⟨(hW.cell (p:=⟨g,0,none⟩) (aal H1.out.cells.lt jg.size) (by simpa using t3)).trans hcg,(hW.cell (p:=⟨B k,n,none⟩) aeI (by simpa using hBl)).trans Ef⟩;have YD:=sh aa4;have acU:=sh se;have Yp:=sh jg;have ac0:=sh IU;clear hBl aa4 se jg IU hV aaq Vr hn Wl hgn hBn ax aan Wf;obtain⟨N,hN⟩:∃N,N=n+1:=⟨_,rfl⟩;rw[<-hN]at Ei |-;have kd:((N:Int)-1)=(n:Int):=by omega
    have nD:IntKind.i64.wrap ((N:Int)-1)=(n:Int):=by rw[kd];exact acq _ (by omega)
    have zV:(0:Int)<=(n:Int):=by omega
    have Pu:(n:Int)<(N:Int):=by omega
    have Dh:n<N:=by omega
    have Pv:IntKind.i64.wrap (n:Int)=(n:Int):=acq _ (by omega);have HN:=sh hN;clear hN;go_wp2_with fail
    go_region_held3 (fun W=>W.cell? ⟨g,0,none⟩=some (.slice (some ⟨l,0,none⟩) E.sec.length E.sec.length)/\W.cell? ⟨B k,n,none⟩=some (.string (E.aF k)))
     (first|exact bD.out _ (ah.refl [l] w3).drew|exact bD.out _ ((ah.refl [l] w3).setCell (.inl (by simp)) _).drew)
     (fail)
    all_goals
     go_roundw
     case rel=>
      have I5:=aeb w3 ⟨l,k,none⟩ (.string (E.aF k)) m (fun e=>Km.out.1 e.symm);have hr':=aeb w3 ⟨l,k,none⟩ (.string (E.aF k)) w1.heap.size (by have:=H1.out.sec.lt;show w1.heap.size≠l;omega)
      (repeat apply Exists.intro)
      refine⟨⟨_,Y3,YD.out.of_heap I5 hr',?_,?_⟩,rfl⟩
      ·rw[zD E left k hk];exact acU.out.put k _
      ·exact(Yp.out.setCell (.inl (by simp)) _).drew
     case measure=>
      have I5:=aeb w3 ⟨l,k,none⟩ (.string (E.aF k)) m (fun e=>Km.out.1 e.symm);have hr':=aeb w3 ⟨l,k,none⟩ (.string (E.aF k)) w1.heap.size (by have:=H1.out.sec.lt;show w1.heap.size≠l;omega);have h4:ed prog 3 (w3.setCell ⟨l,k,none⟩ (.string (E.aF k))).drew m w1.heap.size nn (dr E.row B C) _ Y3:=YD.out.of_heap I5 hr';rw[h4.left_eq,YC.out.left_eq];exact ac0.out
end Go.Proofs.YtjbcbnemdhbhbaaGreatDoor
