import Derived.Test.YtjbcbnemdhbhbaaGreatDoorB9
import Derived.Deep.RegionHeldLaw
import Derived.Deep.DrawnRows
set_option maxRecDepth 100000
set_option linter.unusedVariables false
set_option linter.unusedSimpArgs false
set_option maxHeartbeats 40000000
open ByteArray renaming empty→aca
open Go renaming Value→IS,World→AI
open Go.IntWalk renaming i64_in→acu
open Go.Lib renaming hid→sh
open Go.RowKit.Below renaming heap_setCell→aea
open Go.Value renaming ownBlock→aaU,slice→acf
open Go.World renaming setCell→aeH
open Int renaming toNat_natCast→acJ
open List renaming ext_getElem→agH,getElem?_eq_getElem→aaG,getElem_map→acx,getElem_range→agW,length_append→BY,length_singleton→adC,mem_append→AT,mem_cons→IT,mem_cons_of_mem→ace,mem_cons_self→acs
open Nat renaming le_trans→abE,lt_of_lt_of_le→aaf
namespace Go.Proofs.YtjbcbnemdhbhbaaGreatDoor
open Go.Proofs.Tryz
open Go.RowKit
open Go.PlainAid
theorem DevAt.al{w w1:AI}{g:Nat}{S:List Nat}{D:DevS}{l m nn:Nat}{B C:Nat->Nat}(h:DevAt w g S D l m nn B C)
  (hb:Bk w1 g 156 (bW l D.sec.length m D.al.off D.al.cD D.al.steps D.al.writes)) (ho:ah [g] w w1):DevAt w1 g S D.al l m nn B C:=by
 have pH:g≠l:=Bk.ne h.cells h.sec (by decide);have Xl:g≠m:=h.map.kP h.cells;have er:=D.ma;have es:=D.gF;have ew:=D.dz;have ewt:D.al.waits=D.waits:=by funext i;unfold DevS.waits;rw[er]
 refine⟨h.ok.al,by rw[es];exact hb,by rw[es];exact ho.bk h.sec (by simp;exact fun e=>pH e.symm),by rw[er];exact h.map.off ho (by simp;exact fun e=>Xl e.symm),by rw[ew];exact h.nn,?_,by rw[ewt];exact h.apart,by rw[ewt];exact h.nw,by rw[ewt];exact h.yA,fun b hb=>aaf (h.old b hb) ho.size⟩;rw[ewt];intro i hi;have h1:=h.own i hi;refine ho.own h1 (fun b hb=> ?_);have bL:=bP h1 h.cells (by decide);rw[hb]at bL;simp;exact fun e=>bL (by rw[e])
theorem mw{w:AI}{g base n cap:Nat}{t:TypeId}{xs:List IS}(h:w.ownsRow base t 1 (.slice (some ⟨g,0,none⟩) n cap) n xs):∃cs,Bk w g t cs:=by
 rcases h.2 with⟨h0,_⟩|⟨g',DA,cur,h0,_,hh,_⟩
 ·cases h0
 ·injection h0 with h0
  injection h0 with h0;injection h0 with h0;subst h0;exact⟨cur,hh⟩
theorem Fy{w1 w2 w3:AI}{g:Nat}{S:List Nat}{D:DevS}{l m nn:Nat}{B C:Nat->Nat}(h:DevAt w1 g S D l m nn B C){k:Nat}(hk:k<D.sec.length){s:ByteArray}(hs:s.size=128)(QV:D.writes<D.steps)
  {A:Option Addr} {c b cap:Nat} (hv:(acf A (D.waits k).length c)=(dr D.row B C (k:Int)).getD (.slice none 0 0)) {W:AI} (hW:ah [] w1 W)
  (au:w2.ownsRow 0 9 1 (.slice (some ⟨b,0,none⟩) ((D.waits k).length+1) cap) ((D.waits k).length+1) (strs (D.waits k)++[.string s]))
  (hg:W.grownBy w2 (acf A (D.waits k).length c).ownBlock) (cL:(acf A (D.waits k).length c).ownBlock=some b\/b=w1.heap.size+1) (aI:b<w2.heap.size)
  (hm:IMap prog 3 w3 m (nn+1) (fun j=>if j=(k:Int)then some (.slice (some ⟨b,0,none⟩) ((D.waits k).length+1) cap)else dr D.row B C j)) (AE:w2.grownBy w3 (some m)):
  ∃S',Dev (w3.setCell ⟨g,5,none⟩ (.int .i64 (D.writes+1))) g S' { D with row:=D.row++[(k,s)],writes:=D.writes+1 }/\ah S w1 (w3.setCell ⟨g,5,none⟩ (.int .i64 (D.writes+1)))/\aj w1 S S':=by
 obtain⟨i1,i2,i3,i4⟩:=h.yA;have pH:g≠l:=Bk.ne h.cells h.sec (by decide);have Xl:g≠m:=h.map.kP h.cells;have uW:l≠m:=h.map.kP h.sec;have mT:∀x,(acf A (D.waits k).length c).ownBlock=some x->D.waits k≠[]/\x=B k:=by
  intro x hx;rw[hv]at hx;unfold dr at hx;rw[acJ]at hx;by_cases hn:ba D.row k=[]
  ·rw[if_neg (fun e=>e.2 hn)]at hx
   simp[aaU]at hx
  ·rw[if_pos ⟨by omega,hn⟩]at hx
   simp[aaU]at hx;exact⟨hn,hx.symm⟩
 have hT:∀x,(acf A (D.waits k).length c).ownBlock=some x->x∈S/\x≠g/\x≠l/\x≠m:=by
  intro x hx;obtain⟨hn,rfl⟩:=mT x hx;have h1:=h.own k hn;obtain⟨cs,fu⟩:=mw h1;exact⟨i4 k hn,Bk.ne fu h.cells (by decide),h.nw k hn,h.map.kP fu⟩
 let T:List Nat:=(match (acf A (D.waits k).length c).ownBlock with|some x=>[x]|none=>[])++[m,g]
 have Wk:∀x,x∈T->(acf A (D.waits k).length c).ownBlock=some x\/x=m\/x=g:=by
  intro x hx;rcases AT.1 hx with hx|hx
  ·left
   revert hx
   cases (acf A (D.waits k).length c).ownBlock with
   | none=>simp
   | some y=>intro hx;simp at hx;rw[hx]
  ·right
   simpa using hx
 have DT:ah T w1 w2:=(hW.mono (by simp)).grown hg (fun x hx=> .inl (AT.2 (.inl (by rw[hx];simp))));have UU:ah T w1 w3:=DT.grown AE (fun x hx=>by injection hx with hx;subst hx;exact .inl (AT.2 (.inr (by simp))));have OS:ah T w1 (w3.setCell ⟨g,5,none⟩ (.int .i64 (D.writes+1))):=UU.setCell (.inl (AT.2 (.inr (by simp)))) _;have ngT:∀x,(acf A (D.waits k).length c).ownBlock=some x->x≠g:=fun x hx=>(hT x hx).2.1;have hlT:l∉T:=fun hx=>by
  rcases Wk l hx with hx|hx|hx
  ·exact(hT l hx).2.2.1 rfl
  ·exact uW hx
  ·exact pH hx.symm
 have U9:Bk w2 g 156 (bW l D.sec.length m D.off D.cD D.steps D.writes):=
  (hg.block g (aaf h.cells.lt hW.size) (fun e=>(ngT g e.symm) rfl)).trans (hW.bk h.cells (by simp))
 have aeL:Bk w3 g 156 (bW l D.sec.length m D.off D.cD D.steps D.writes):=(AE.block g U9.lt (fun e=>Xl (by injection e))).trans U9;have aeM:Bk (w3.setCell ⟨g,5,none⟩ (.int .i64 (D.writes+1))) g 156 (bW l D.sec.length m D.off D.cD D.steps (D.writes+1)):=aeL.put 5 _;obtain⟨cs,fu⟩:=mw au;have Ar:b≠g:=Bk.ne fu U9 (by decide);have mF:IMap prog 3 w2 m nn (dr D.row B C):=h.map.of_heap ((hg.block m (aaf h.map.lt hW.size) (fun e=>(hT m e.symm).2.2.2 rfl)).trans (hW.block m h.map.lt (by simp)));have vk:b≠m:=mF.kP fu;have gH:b≠l:=by
  intro e;rcases cL with e1|e1
  ·exact(hT b e1).2.2.1 e
  ·have:=h.sec.lt;omega
 have aw:=(ah.refl [m] w2).grown AE (fun x hx=>by injection hx with hx;exact .inl (by simp[hx])) |>.own au (fun x hx=>by
  have:x=b:=by simpa[aaU]using hx.symm
  subst this;simpa using vk)
 have bM:=((ah.refl [g] w3).setCell (p:=⟨g,5,none⟩) (.inl (by simp)) (.int .i64 (D.writes+1))).own aw (fun x hx=>by
  have:x=b:=by simpa[aaU]using hx.symm
  subst this;simpa using Ar)
 have ae6:∀j,j≠k->D.waits j≠[]->B j∉T:=by
  intro j hj hn hx;obtain⟨zQ,ZO⟩:=mw (h.own j hn);rcases Wk _ hx with hx|hx|hx
  ·obtain⟨QF,e⟩:=mT _ hx
   exact hj (h.apart j k hn QF e)
  ·exact h.map.kP ZO hx
  ·exact Bk.ne ZO h.cells (by decide) hx
 have hbB:∀j,j≠k->D.waits j≠[]->b≠B j:=by
  intro j hj hn e;rcases cL with e1|e1
  ·obtain⟨QF,e2⟩:=mT _ e1
   exact hj (h.apart j k hn QF (by rw[<-e,e2]))
  ·have:=h.old _ (i4 j hn);omega
 have wk:∀j,({ D with row:=D.row++[(k,s)],writes:=D.writes+1 }:DevS).waits j=if k=j then D.waits j++[s]else D.waits j:=fun j=>ie D.row k j s;have e5:∀j,(if j=k then b else B j)=(if j=k then b else B j):=fun _=>rfl;refine⟨b::S,⟨l,m,nn+1,(fun j=>if j=k then b else B j),(fun j=>if j=k then cap else C j),?_⟩,OS.mono ?_,?_⟩
 ·refine⟨?_,aeM,OS.bk h.sec hlT,?_,?_,?_,?_,?_,?_,?_⟩
  ·refine⟨h.ok.some,h.ok.most,h.ok.Wv,?_,h.ok.LR,h.ok.FZ,?_,?_⟩
   ·intro x hx
    rcases AT.1 hx with hx|hx
    ·exact h.ok.rows x hx
    ·obtain rfl:x=(k,s):=by simpa using hx
     exact⟨hk,hs⟩
   ·have:=h.ok.Cb;simp only[BY,adC];omega
   ·show D.writes+1<=D.steps;omega
  ·refine IMap.of_heap (w:=w3) ?_ (aea w3 _ _ m (fun e=>Xl e.symm))
   have:dr (D.row++[(k,s)]) (fun j=>if j=k then b else B j) (fun j=>if j=k then cap else C j)=(fun j=>if j=(k:Int)then some (.slice (some ⟨b,0,none⟩) ((D.waits k).length+1) cap)else dr D.row B C j):=by
    funext j
    unfold dr;rw[ie];by_cases hj:j=(k:Int)
    ·subst hj
     rw[acJ,if_pos rfl,if_pos rfl,if_pos ⟨by omega,by simp⟩];simp only[if_true,BY,adC];rfl
    ·rw[if_neg hj]
     by_cases ID:0<=j
     ·have F9:j.toNat≠k:=by omega
      have zj:¬ (k=j.toNat):=fun e=>F9 e.symm;simp only[if_neg zj,if_neg F9]
     ·rw[if_neg (fun e=>ID e.1),if_neg (fun e=>ID e.1)]
   show IMap _ _ w3 m (nn+1) (dr (D.row++[(k,s)]) _ _);rw[this];exact hm
  ·have:=h.nn
   show ((nn+1:Nat):Int)<=D.writes+1;omega
  ·intro j hj
   rw[wk]at hj |-;by_cases F9:k=j
   ·subst F9
    simp only[if_pos,BY,adC];have:strs (D.waits k++[s])=strs (D.waits k)++[.string s]:=by simp[strs]
    rw[this];exact bM
   ·rw[if_neg F9]at hj |-
    have aah:j≠k:=fun e=>F9 e.symm;simp only[if_neg aah];exact OS.own (h.own j hj) (fun x hx=>by
     have:x=B j:=by simpa[aaU]using hx.symm
     subst this;exact ae6 j aah hj)
  ·intro i j hi hj Ki
   rw[wk]at hi hj;by_cases h1:i=k
   ·by_cases h2:j=k
    ·rw[h1,h2]
    ·simp only[if_pos h1,if_neg h2]at Ki
     rw[if_neg (fun e=>h2 e.symm)]at hj;exact absurd Ki (hbB j h2 hj)
   ·by_cases h2:j=k
    ·simp only[if_neg h1,if_pos h2]at Ki
     rw[if_neg (fun e=>h1 e.symm)]at hi;exact absurd Ki.symm (hbB i h1 hi)
    ·simp only[if_neg h1,if_neg h2]at Ki
     rw[if_neg (fun e=>h1 e.symm)]at hi;rw[if_neg (fun e=>h2 e.symm)]at hj;exact h.apart i j hi hj Ki
  ·intro i hi
   rw[wk]at hi;by_cases h1:i=k
   ·simp only[if_pos h1];exact gH
   ·simp only[if_neg h1]
    rw[if_neg (fun e=>h1 e.symm)]at hi;exact h.nw i hi
  ·refine⟨ace _ i1,ace _ i2,ace _ i3,fun i hi=> ?_⟩
   rw[wk]at hi;by_cases h1:i=k
   ·simp only[if_pos h1];exact acs
   ·simp only[if_neg h1]
    rw[if_neg (fun e=>h1 e.symm)]at hi;exact ace _ (i4 i hi)
  ·intro x hx
   have cZ:w2.heap.size<=(w3.setCell ⟨g,5,none⟩ (.int .i64 (D.writes+1))).heap.size:=by
    have:=AE.size;simpa[aeH]using this
   rcases IT.1 hx with rfl|hx
   ·omega
   ·exact aaf (h.old x hx) OS.size
 ·intro x hx
  left;rcases Wk x hx with hx|hx|hx
  ·exact(hT x hx).1
  ·rw[hx];exact i3
  ·rw[hx];exact i1
 ·intro x hx
  rcases IT.1 hx with rfl|hx
  ·rcases cL with e1|e1
   ·exact .inl (hT _ e1).1
   ·exact .inr (by omega)
  ·exact .inl hx
def BK (v:IS):List Nat:=match v.ownBlock with|some x=>[x]|none=>[]
theorem Jk{w:AI}{g:Nat}{S:List Nat}{D:DevS}{l m nn:Nat}{B C:Nat->Nat}(h:DevAt w g S D l m nn B C)(k:Nat){A:Option Addr}{n c:Nat}(hv:(acf A n c)=(dr D.row B C (k:Int)).getD (.slice none 0 0)):
  g∉BK (.slice A n c)/\l∉BK (.slice A n c)/\m∉BK (.slice A n c):=by
 unfold BK;rw[hv];unfold dr;rw[acJ];by_cases hn:ba D.row k=[]
 ·rw[if_neg (fun e=>e.2 hn)]
  simp[aaU]
 ·rw[if_pos ⟨by omega,hn⟩]
  have h1:=h.own k hn;obtain⟨cs,fu⟩:=mw h1;simp[aaU];exact⟨Bk.ne h.cells fu (by decide),fun e=>h.nw k hn e.symm,fun e=>h.map.kP fu e.symm⟩
theorem tN:(prog.info? 9).map (fun i=>(i.zero,i.size,i.bytes))=some (some (.string aca),1,16):=by kernel_rfl
theorem dH{g:Nat}{S:List Nat}{D D':DevS}{r r':IS}{w w':AI}(hD:D=D')(hr:r=r')(h:∃S',Dev w' g S' D'/\ah S w w'/\aj w S S'):gl g S D r w (.returned r') w':=by
 subst hD;subst hr;exact⟨rfl,h⟩
theorem DK{g:Nat}{S:List Nat}{D:DevS}{w:AI}(hd:Dev w g S D)(i:Int)(s:ByteArray)(hb:D.steps<=1000000000)(cZ:s.size<=maxLen):
  Calls prog 118 #[ptr g,.int .i64 i,.string s] w (gl g S (D.write i s).1 (.int .i64 (D.write i s).2) w):=by
 have qV:=sh hd;unfold maxLen at cZ;cases dv:D.nU i with
 | false=>
  have HL:Hid (D.write i s=(D,1)):=show _=_ by unfold DevS.write;rw[dv];rfl
  obtain⟨l,m,nn,B,C,h⟩:=hd;clear h;go_enter func118,ntmps118
  go_wp2_with (go_at_call 178;refine(iX qV.out i).mono ?_;rintro e w2 ⟨rfl,rfl⟩;rw[dv])
  go_ret
  exact dH (by rw[HL.out]) (by rw[HL.out];rfl) ⟨S,qV.out,ah.refl _ _,aj.refl _ _⟩
 | true=>
  by_cases Ir:s.size≠128
  ·have HL:Hid (D.write i s=(D,1)):=show _=_ by unfold DevS.write;rw[dv];simp[Ir]
   have q1:((s.size:Int)==128)=false:=by simp;omega
   have q2:((s.size:Int) != 128)=true:=by simp;omega
   obtain⟨l,m,nn,B,C,h⟩:=hd;clear h Ir;go_enter func118,ntmps118
   go_wp2_with (go_at_call 178;refine(iX qV.out i).mono ?_;rintro e w2 ⟨rfl,rfl⟩;rw[dv])
   go_ret
   exact dH (by rw[HL.out]) (by rw[HL.out];rfl) ⟨S,qV.out,ah.refl _ _,aj.refl _ _⟩
  ·have Ir:s.size=128:=by omega
   have q1:((s.size:Int)==128)=true:=by simp;omega
   have q2:((s.size:Int) != 128)=false:=by simp;omega
   have TF:=sh Ir;obtain⟨l,m,nn,B,C,h⟩:=hd;have HD:=sh h;cases fi:D.eu with
   | false=>
    have HL:Hid (D.write i s=(D.al,6)):=show _=_ by unfold DevS.write;rw[dv,TF.out,fi];rfl
    clear h Ir;go_enter func118,ntmps118
    go_wp2_with (first
     | (go_at_call 178;refine(iX qV.out i).mono ?_;rintro e w2 ⟨rfl,rfl⟩;rw[dv])
     | (go_at_call 173;refine(mA HD.out.cells HD.out.ok hb).mono ?_;rintro e w2 ⟨rfl,az,kU⟩;rw[fi];have bz:=sh az;have gW:=sh kU;clear az kU)
     | fail)
    go_ret
    exact dH (by rw[HL.out]) (by rw[HL.out];rfl) ⟨S,⟨l,m,nn,B,C,HD.out.al bz.out gW.out⟩,gW.out.mono (fun x hx=> .inl (by simp at hx;rw[hx];exact HD.out.yA.1)),aj.refl _ _⟩
   | true=>
    obtain⟨i0,i1⟩:=DevS.iB.1 dv;obtain⟨k,rfl⟩:∃k:Nat,i=(k:Int):=⟨i.toNat,by omega⟩;have hk:k<D.sec.length:=by omega
    have HL:Hid (D.write (k:Int) s=({ D.al with row:=D.al.row++[(k,s)],writes:=D.al.writes+1 },0)):=show _=_ by unfold DevS.write;rw[dv,TF.out,fi,D.ma,D.dz];rfl
    have bG:D.off=false:=by unfold DevS.eu at fi;simp at fi;exact fi.1
    have HWS:Hid (D.al.writes<D.al.steps):=show _<_ by
     have:=h.ok.kF;rw[D.dz];unfold DevS.al;rw[bG];show D.writes<D.steps+1;omega
    have hwr:D.al.writes<=1000000000:=by rw[D.dz];have:=h.ok.kF;omega
    have al8:0<=D.al.writes:=by rw[D.dz];exact h.ok.GW
    have HK:=sh hk;clear h Ir bG i1 hk;go_enter func118,ntmps118
    go_wp2_with (first
     | (go_at_call 178;refine(iX qV.out _).mono ?_;rintro e w2 ⟨rfl,rfl⟩;rw[dv])
     | (go_at_call 173;refine(mA HD.out.cells HD.out.ok hb).mono ?_;rintro e w1 ⟨rfl,ar,qW⟩;rw[fi];have bh:=sh ar;have iN:=sh qW;clear ar qW)
     | fail)
    have h1:=HD.out.al bh.out iN.out;have Pw:=sh (show ah S w w1 from iN.out.mono (fun x hx=> .inl (by simp at hx;rw[hx];exact HD.out.yA.1)));have A8:D.al.sec.length=D.sec.length:=by rw[D.gF]
    have sf:=sh (show k<D.al.sec.length by rw[A8];exact HK.out);clear A8 HK bh iN HD qV fi dv hb;generalize D.al=E at *;obtain⟨A,c,cm,fF,au,hv⟩:=BA h1 k (by have:=h1.ok.most;have:=sf.out;omega);obtain⟨c0,c1,c2,c3,c4,c5⟩:=h1.cells.Kt;have g5:=h1.cells.frozen 5;have hlen:(E.waits k).length<=1000000000:=by
     have t1:=fN E.row k;have t2:=h1.ok.Cb;unfold DevS.waits;omega
    have HV:=sh hv;have eJ:=sh au;have H1:=sh h1;have Ka:=sh fF;clear hv au fF h1 c0 c2 c3 c4;have HT:=sh (Jk H1.out k HV.out);have bH:Hid (∀W,ah (BK (.slice A (E.waits k).length c)) w1 W->W.cell? ⟨g,1,none⟩=some (.map (some m))/\(Instr.lookup 154 (.map (some m)) (.int .i64 (k:Int)) false).run prog W= .ok (.slice A (E.waits k).length c) W):=fun W hW=>by
     obtain⟨t1,t2,t3⟩:=HT.out;refine⟨(hW.cell (p:=⟨g,1,none⟩) H1.out.cells.lt t1).trans c1,?_⟩;have h2:=(H1.out.map.off hW t3).look (t:=154) underlying3 underlying154 (xF W) (i:=(k:Int)) (CD (by omega) (by have:=H1.out.ok.most;have:=sf.out;omega));rw[<-HV.out]at h2;exact h2
    have HO:=sh (ah.refl (BK (.slice A (E.waits k).length c)) w1);obtain⟨inf,hi,Eo,qq,Bl⟩:=info_parts tN;have HI:=sh hi;have HZ0:=sh Eo;have Kb:=sh qq;have CL:=sh Bl;clear hi Eo qq Bl;have HUP:Hid (∀(W W2:AI) (b cap:Nat),ah [] w1 W->W.grownBy W2 (acf A (E.waits k).length c).ownBlock->∃w3,(Instr.mapUpdate 154 (.map (some m)) (.int .i64 (k:Int)) (.slice (some ⟨b,0,none⟩) ((E.waits k).length+1) cap)).run prog W2= .ok () w3/\
      IMap prog 3 w3 m (nn+1) (fun j=>if j=(k:Int)then some (.slice (some ⟨b,0,none⟩) ((E.waits k).length+1) cap)else dr E.row B C j)/\W2.grownBy w3 (some m)/\W2.cell? ⟨g,1,none⟩=some (.map (some m))/\w3.cell? ⟨g,1,none⟩=some (.map (some m))/\w3.cell? ⟨g,5,none⟩=some (.int .i64 E.writes)/\w3.frozen? ⟨g,5,none⟩=false):=fun W W2 b cap hW hg=>by
     obtain⟨t1,t2,t3⟩:=HT.out;have hO:ah (BK (.slice A (E.waits k).length c)) w1 W2:=(hW.mono (by simp)).grown hg (fun x hx=> .inl (by rw[BK,hx];simp));have Ar:Bk W2 g 156 _:=hO.bk H1.out.cells t1;obtain⟨w3,r1,r2,r3⟩:=(H1.out.map.off hO t3).update (t:=154) underlying3 underlying154 (by have:=H1.out.nn;unfold maxLen;omega) (CD (i:=(k:Int)) (by omega) (by have:=H1.out.ok.most;have:=sf.out;omega)) (.slice (some ⟨b,0,none⟩) ((E.waits k).length+1) cap);have aQ:Bk w3 g 156 _:=(r3.block g Ar.lt (fun e=>(H1.out.map.kP H1.out.cells) (by injection e))).trans Ar;exact⟨w3,r1,r2,r3,by simpa using Ar.cell 1,by simpa using aQ.cell 1,by simpa using aQ.cell 5,aQ.frozen 5⟩
    have aiA:=(bH.out _ HO.out.drew).2;have aiB:=(bH.out _ (HO.out.alloc (.cells #[.string s] 9)).drew).2;clear cm;go_region_held3 (fun W=>W.cell? ⟨g,1,none⟩=some (.map (some m)))
     (first|exact(bH.out _ HO.out.drew).1|exact(bH.out _ (HO.out.alloc _).drew).1|assumption)
     ((refine step_append_lies _ (by rfl) _ _ 72 (by rfl) 0 9 inf (.string aca) 1 16 underlying72 HI.out HZ0.out Kb.out CL.out (by rfl) (by omega) _ _ _ (by rfl) (eJ.out.alloc _) _ 1 1 [.string s] (by rfl) (by rfl) (World.news_of_block (heap_alloc_new w1 _)) (Of [s]) (by omega) (by unfold maxLen;omega) (by omega) (Nat.zero_le _) (w1.heap.size+1) (by simp) ?_;intro b cap w2 bf bX cL aI;obtain⟨w3,al2,iw,AE,ak6,ZI,Ke,F7⟩:=HUP.out _ w2 b cap (((ah.refl [] w1).alloc _).drew) bX;have OL:=sh iw;have HG3:=sh AE;have XU:=sh bX;have sL:=sh bf;have FA:=sh cL;clear iw AE bX bf cL))
    all_goals
     go_wp2_with fail
     go_ret
     exact dH (by rw[HL.out]) (by rw[HL.out];rfl) (by
      obtain⟨S',hd',ho',hf'⟩:=Fy H1.out sf.out TF.out HWS.out HV.out (((ah.refl [] w1).alloc _).drew) sL.out XU.out FA.out aI OL.out HG3.out;refine⟨S',hd',Pw.out.trans ho',fun x hx=> ?_⟩;rcases hf' x hx with h|h
      ·exact .inl h
      ·exact .inr (abE Pw.out.size h))
theorem Il{w1 wr W:AI}{g:Nat}{S X:List Nat}{D D':DevS}{l m nn m':Nat}{B C:Nat->Nat}(h:DevAt w1 g S D l m nn B C)(ho:ah (l::X) w1 wr)(hX:∀x∈X,w1.heap.size<=x)
  (hl:Bk wr l 9 (strs D'.sec).toArray) (hk:D'.Ok) (bc:D'.row=[]) (A8:D'.sec.length=D.sec.length) (hg:Bk W g 156 (bW l D.sec.length m' D'.off D'.cD D'.steps D'.writes))
  (hm:IMap prog 3 W m' 0 (fun _=>none)) (hW:ah [g] wr W) (IG:w1.heap.size<=m'):∃S',Dev W g S' D'/\ah S w1 W/\aj w1 S S':=by
 obtain⟨i1,i2,i3,i4⟩:=h.yA;have pH:g≠l:=Bk.ne h.cells h.sec (by decide);have qW:ah (g::l::X) w1 W:=(ho.mono (fun x hx=> .inl (ace _ hx))).then hW (fun x hx=> .inl (by simp at hx;simp[hx]));have hw:∀i,D'.waits i=[]:=fun i=>by unfold DevS.waits;rw[bc];rfl
 refine⟨m'::S,⟨l,m',0,B,C,⟨hk,by rw[A8];exact hg,hW.bk hl (by simpa using fun e=>pH e.symm),?_,by have:=hk.GW;omega,fun i hi=>absurd (hw i) hi,fun i _ hi=>absurd (hw i) hi,fun i hi=>absurd (hw i) hi,⟨ace _ i1,ace _ i2,acs,fun i hi=>absurd (hw i) hi⟩,?_⟩⟩,?_,?_⟩
 ·rw[bc]
  have:dr [] B C=fun _=>none:=by funext i;unfold dr;simp[ba]
  rw[this];exact hm
 ·intro b hb
  rcases IT.1 hb with rfl|hb
  ·exact hm.lt
  ·exact aaf (h.old b hb) qW.size
 ·refine qW.mono (fun x hx=> ?_)
  rcases IT.1 hx with rfl|hx
  ·exact .inl i1
  ·rcases IT.1 hx with rfl|hx
   ·exact .inl i2
   ·exact .inr (hX x hx)
 ·intro b hb
  rcases IT.1 hb with rfl|hb
  ·exact .inr IG
  ·exact .inl hb
theorem Nk(w:AI)(p:Addr)(u:IS):IMap prog 3 ((w.setCell p u).alloc (.map #[] 0)) w.heap.size 0 (fun _=>none):=by
 have h:=IMap.made (w.setCell p u) prog 3;have e:(w.setCell p u).heap.size=w.heap.size:=by simp[aeH]
 rw[e]at h;exact h
def cX (D:DevS) (left:Int->Bool):List ByteArray:=(List.range D.sec.length).map fun(i:Nat)=>if left (i:Int)=true then D.sec.getD i aca else D.aG i
theorem Cp(D:DevS)(left:Int->Bool):(cX D left).length=D.sec.length:=by simp[cX]
theorem Ex{D:DevS}{i:Nat}(h:D.waits i=[]):D.aG i=D.sec.getD i aca:=by unfold DevS.aG;rw[h];rfl
theorem yY(row:List (Nat×ByteArray))(B C:Nat->Nat)(i:Nat):(dr row B C (i:Int)).isSome= !(ba row i).isEmpty:=by
 unfold dr;rw[acJ];cases hw:ba row i with
 | nil=>rw[if_neg (fun e=>e.2 rfl)];rfl
 | cons a b=>rw[if_pos ⟨by omega,by simp⟩];rfl
theorem vM(D:DevS)(B C:Nat->Nat):cX D (fun i=>(dr D.row B C i).isSome)=D.sec:=by
 refine agH (by simp[cX]) (fun i h1 h2=> ?_);simp only[cX,acx,agW];have e:D.sec.getD i aca=D.sec[i]:=by rw[List.getD_eq_getElem?_getD,aaG h2];rfl
 rw[yY];by_cases hn:ba D.row i=[]
 ·rw[hn,Ex (by exact hn),e];simp
 ·have:(!(ba D.row i).isEmpty)=true:=by cases hw:ba D.row i with
   | nil=>exact absurd hw hn
   | cons a b=>rfl
  rw[this,if_pos rfl,e]
theorem yU(D:DevS)(left:Int->Bool)(k:Nat)(hk:k<D.sec.length):
  (strs (cX D (fun j=>left j&& !decide (j=(k:Int))))).toArray=(strs (cX D left)).toArray.setIfInBounds k (.string (D.aG k)):=by
 have e:cX D (fun j=>left j&& !decide (j=(k:Int)))=(cX D left).set k (D.aG k):=by
  refine agH (by simp[cX]) (fun i h1 h2=> ?_);rw[List.getElem_set];simp only[cX,acx,agW];by_cases hik:k=i
  ·subst hik
   simp
  ·have:¬ ((i:Int)=(k:Int)):=by omega
   rw[if_neg hik];simp[this]
 rw[e];simp[strs,List.map_set]
theorem Co(D:DevS)(left:Int->Bool)(h:∀i,left i=false):cX D left=D.synced.sec:=by
 unfold cX DevS.synced;simp[h]
theorem Fw{row:List (Nat×ByteArray)}{B C:Nat->Nat}{i:Int}{v:IS}(h:dr row B C i=some v):
  ∃k n,i=((k:Nat):Int)/\(ba row k).length=n+1/\v= .slice (some ⟨B k,0,none⟩) (n+1) (C k):=by
 unfold dr at h;by_cases hc:0<=i/\ba row i.toNat≠[]
 ·rw[if_pos hc]at h
  injection h with h;have h1:=List.length_pos_iff.2 hc.2;refine⟨i.toNat,(ba row i.toNat).length-1,by omega,by omega,?_⟩;rw[<-h];have:(ba row i.toNat).length-1+1=(ba row i.toNat).length:=by omega
  rw[this]
 ·rw[if_neg hc]at h
  cases h
theorem wu{g:Nat}{S:List Nat}{D:DevS}{w:AI}(hd:Dev w g S D)(hb:D.steps<=1000000000):
  Calls prog 116 #[ptr g] w (gl g S D.sync.1 (.int .i64 D.sync.2) w):=by
 obtain⟨l,m,nn,B,C,h⟩:=hd;have HD:=sh h;cases fi:D.eu with
 | false=>
  have HL:Hid (D.sync=(D.al,6)):=show _=_ by unfold DevS.sync;rw[fi];rfl
  clear h;go_enter func116,ntmps116
  go_wp2_with (go_at_call 173;refine(mA HD.out.cells HD.out.ok hb).mono ?_;rintro e w2 ⟨rfl,az,kU⟩;rw[fi];have bz:=sh az;have gW:=sh kU;clear az kU)
  go_ret
  exact dH (by rw[HL.out]) (by rw[HL.out];rfl) ⟨S,⟨l,m,nn,B,C,HD.out.al bz.out gW.out⟩,gW.out.mono (fun x hx=> .inl (by simp at hx;rw[hx];exact HD.out.yA.1)),aj.refl _ _⟩
 | true=>
  have HL:Hid (D.sync=(D.al.synced,0)):=show _=_ by unfold DevS.sync;rw[fi];rfl
  have kL:=@run_makeMap prog;clear h;go_enter func116,ntmps116
  go_wp2_with (first
   | (go_at_call 173;refine(mA HD.out.cells HD.out.ok hb).mono ?_;rintro e w1 ⟨rfl,ar,qW⟩;rw[fi];have H1:=sh (HD.out.al ar qW);have iN:=sh qW;clear ar qW;obtain⟨c0,c1,c2,c3,c4,c5⟩:=H1.out.cells.Kt;clear c2 c3 c4 c5)
   | (at_range;refine pC rfl _ 154 rfl 72 underlying3 underlying154 rfl H1.out.map ?_;intro w2 uP rZ SM cZ;have HRG:=sh rZ;have XU:=sh SM;have ON:=sh cZ;clear rZ SM cZ)
   | fail)
  go_frame
  have J8:Hid (l≠m/\g≠m/\g≠l):=⟨H1.out.map.kP H1.out.sec,H1.out.map.kP H1.out.cells,Bk.ne H1.out.cells H1.out.sec (by decide)⟩;have hwr:D.al.writes<=1000000000:=by rw[D.dz];have:=HD.out.ok.kF;omega
  generalize D.al=E at *;clear c0 c1;go_loopw [3] (fun _ wr=>∃left uP,gN prog 3 wr m w1.heap.size nn (dr E.row B C) left uP/\Bk wr l 9 (strs (cX E left)).toArray/\ah [l,w1.heap.size] w1 wr) (fun _ wr=>wr.rangeLeft m w1.heap.size)
  case atStart=>
   have hO:ah [] w1 w2:=(ah.refl [] w1).grown XU.out (fun x hx=>by cases hx);exact⟨_,_,HRG.out,by rw[vM];exact hO.bk H1.out.sec (by simp),hO.mono (by simp)⟩
  case round=>
   obtain⟨left,akt,aa4,Qm,Th⟩:=hrel;have YC:=sh aa4;have TN:=sh Qm;have FD:=sh Th;clear aa4 Qm Th;go_wp2_with (first
    | (at_next;refine qK rfl _ rfl underlying3 rfl YC.out ?_ ?_)
    | fail)
   ·intro lL
    have bV:=sh lL;clear lL;have OW:Bk wr g 156 _:=FD.out.bk H1.out.cells (by have:=H1.out.cells.lt;have:=J8.out;simp;omega);have HG0:=sh OW;have fU:=OW.Kt.2.1;have bZ:=OW.frozen 1;have aeV:=(OW.alloc (.map #[] 0)).Kt.2.1;have vn:=(OW.alloc (.map #[] 0)).frozen 1;have hgw:=OW.lt;clear OW;go_wp2_with fail
    go_ret
    exact dH (by rw[HL.out]) (by rw[HL.out];rfl) (by
     have bc:=Co E left bV.out;obtain⟨S',h1,h2,h3⟩:=Il (D':=E.synced) (m':=wr.heap.size) (W:=(wr.setCell ⟨g,1,none⟩ (.map (some wr.heap.size))).alloc (.map #[] 0)) H1.out (X:=[w1.heap.size]) FD.out (by simp) (by rw[<-bc];exact TN.out) H1.out.ok.synced rfl (by simp[DevS.synced])
      ((HG0.out.put 1 _).alloc _) (Nk wr _ _) (((ah.refl [g] wr).setCell (.inl (by simp)) _).alloc _) FD.out.size
     exact⟨S',h1,(iN.out.mono (fun x hx=> .inl (by simp at hx;rw[hx];exact H1.out.yA.1))).trans h2,fun x hx=>(h3 x hx).imp_right (abE iN.out.size)⟩)
   ·intro i v w3 Y1 hV aap aa5 Iv Vp V7 wO
    obtain⟨k,n,rfl,hn,rfl⟩:=Fw hV;have lO:ah [l,w1.heap.size] w1 w3:=FD.out.grown Vp (fun x hx=>by injection hx with hx;exact .inl (by simp[hx]));have Wd:E.waits k≠[]:=by unfold DevS.waits;intro e;rw[e]at hn;simp at hn
    have hk:k<E.sec.length:=by
     rcases Nat.lt_or_ge k E.sec.length with h|h
     ·exact h
     ·exact absurd (DevS.sd H1.out.ok h) Wd
    obtain⟨t1,t2,t3⟩:=J8.out;have Z9:g∉[l,w1.heap.size]:=by have:=H1.out.cells.lt;simp;omega
    have hBn:B k∉[l,w1.heap.size]:=by have:=H1.out.nw k Wd;have:=H1.out.old _ (H1.out.yA.2.2.2 k Wd);simp;omega
    have aw:=lO.own (H1.out.own k Wd) (fun b hb=>by
     have:b=B k:=by simpa[aaU]using hb.symm
     subst this;exact hBn)
    have aam:E.aG k=(E.waits k)[n]'(by unfold DevS.waits;omega):=by
     unfold DevS.aG;have QF:(E.waits k).length=n+1:=hn;rw[List.getLastD_eq_getLast?,List.getLast?_eq_getElem?,aaG (by omega)];simp[QF]
    obtain⟨b,o,ZD,aeP,CR⟩:=Sl.eG aw n (.string (E.aG k)) (by rw[aam];simp[strs]);injection ZD with ZD;injection ZD with ar qW;subst ar;subst qW;rw[Nat.zero_add]at CR;have yp:Bk w3 l 9 (strs (cX E left)).toArray:=(Vp.block l TN.out.lt (fun e=>by have:=H1.out.sec.lt;injection e with e;omega)).trans TN.out;have CU:=yp.frozen k;have hcg:w3.cell? ⟨g,0,none⟩=some (.slice (some ⟨l,0,none⟩) E.sec.length E.sec.length):=(lO.bk H1.out.cells Z9).Kt.1;have gT:k<(cX E left).length:=by rw[Cp];exact hk
    have od:w3.cell? ⟨l,k,none⟩=some (.string (cX E left)[k]):=by rw[yp.cell k];simp[strs,gT]
    have oh:n<1000000000:=by
     have t1:=fN E.row k;have t2:=H1.out.ok.Cb;omega
    have hBl:B k≠l:=H1.out.nw k Wd;have i0:(0:Int)<=(k:Int):=by omega
    have i1:(k:Int)<(E.sec.length:Int):=by omega
    have bH:Hid (∀W,ah [l] w3 W->W.cell? ⟨g,0,none⟩=some (.slice (some ⟨l,0,none⟩) E.sec.length E.sec.length)/\W.cell? ⟨B k,n,none⟩=some (.string (E.aG k))):=fun W hW=>⟨(hW.cell (p:=⟨g,0,none⟩) (aaf H1.out.cells.lt lO.size) (by simpa using t3)).trans hcg,(hW.cell (p:=⟨B k,n,none⟩) aeP (by simpa using hBl)).trans CR⟩;have YD:=sh aa5;have acZ:=sh yp;have Yq:=sh lO;have ac5:=sh Iv;clear hBl aa5 yp lO Iv hV aap Vp hn Wd Z9 hBn aw aam V7;obtain⟨N,hN⟩:∃N,N=n+1:=⟨_,rfl⟩;rw[<-hN]at wO |-;have jw:((N:Int)-1)=(n:Int):=by omega
    have pK:IntKind.i64.wrap ((N:Int)-1)=(n:Int):=by rw[jw];exact acu _ (by omega)
    have oo:(0:Int)<=(n:Int):=by omega
    have IU:(n:Int)<(N:Int):=by omega
    have Kl:n<N:=by omega
    have XA:IntKind.i64.wrap (n:Int)=(n:Int):=acu _ (by omega);have HN:=sh hN;clear hN;go_wp2_with fail
    go_region_held3 (fun W=>W.cell? ⟨g,0,none⟩=some (.slice (some ⟨l,0,none⟩) E.sec.length E.sec.length)/\W.cell? ⟨B k,n,none⟩=some (.string (E.aG k)))
     (first|exact bH.out _ (ah.refl [l] w3).drew|exact bH.out _ ((ah.refl [l] w3).setCell (.inl (by simp)) _).drew)
     (fail)
    all_goals
     go_roundw
     case rel=>
      have IG:=aea w3 ⟨l,k,none⟩ (.string (E.aG k)) m (fun e=>J8.out.1 e.symm);have hr':=aea w3 ⟨l,k,none⟩ (.string (E.aG k)) w1.heap.size (by have:=H1.out.sec.lt;show w1.heap.size≠l;omega)
      (repeat apply Exists.intro)
      refine⟨⟨_,Y1,YD.out.of_heap IG hr',?_,?_⟩,rfl⟩
      ·rw[yU E left k hk];exact acZ.out.put k _
      ·exact(Yq.out.setCell (.inl (by simp)) _).drew
     case measure=>
      have IG:=aea w3 ⟨l,k,none⟩ (.string (E.aG k)) m (fun e=>J8.out.1 e.symm);have hr':=aea w3 ⟨l,k,none⟩ (.string (E.aG k)) w1.heap.size (by have:=H1.out.sec.lt;show w1.heap.size≠l;omega);have h4:gN prog 3 (w3.setCell ⟨l,k,none⟩ (.string (E.aG k))).drew m w1.heap.size nn (dr E.row B C) _ Y1:=YD.out.of_heap IG hr';rw[h4.left_eq,YC.out.left_eq];exact ac5.out
end Go.Proofs.YtjbcbnemdhbhbaaGreatDoor
