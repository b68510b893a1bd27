import Derived.Test.YtjbcbnemdhbhbaaGreatDoorB16
import Derived.Test.YtjbcbnemdhbhbaaGreatDoorB7
set_option maxRecDepth 100000
set_option linter.unusedVariables false
set_option linter.unusedSimpArgs false
set_option maxHeartbeats 40000000
open Go renaming Value→IS,World→AI,maxLen→abi
open Go.Addr.mk renaming injEq→aeg
open Go.IntWalk renaming i64_in→acu
open Go.Lib renaming hid→sh
open Go.Op renaming bytesLess→acm
open Go.RowKit renaming Below→No
open Go.RowKit.Below renaming refl→IN
open List renaming append_assoc→OF,drop_eq_getElem_cons→abP,drop_of_length_le→acF,getElem?_eq_getElem→aaG,length_append→BY,length_drop→abS,length_map→aae,length_take→abv,map_append→abH,mem_append→AT,mem_cons→IT,mem_flatMap→abp,nil_append→adn,nodup_append→aai,nodup_cons→abN
open Nat renaming le_refl→AS,lt_of_lt_of_le→aaf,zero_add→abU,zero_le→abc
open Option.some renaming injEq→acI
namespace Go.Proofs.YtjbcbnemdhbhbaaGreatDoor
open Go.Proofs.Tryz
open Go.RowKit
def j8 (p:aA) (S:List Nat) (σ :ag) (k d:Nat) (key:ByteArray) (Q:List Nat) (L:List En) (w w':AI) (r:Rw) (b:Int):Prop:=
 (b=0/\∃(ps:List Pt) (xs:List Tr.Pd) (P':List Nat) (σ':ag) (S':List Nat) (k':Nat),gy w' (Cl 0 S') r ps/\Tr.Parts σ' d key ps P' L xs/\Tr.aE (Tr.lc d) σ Q σ' P'/\p.At w' S' σ' k'/\k<=k'+2*d/\ah S w w'/\aj w S S')\/
 (p.F/\b=9/\r.A=none/\r.n=0/\r.c=0/\∃ σ',Step p S w w' σ' 0)
def vU (p:aA) (S:List Nat) (σ :ag) (k d:Nat) (key:ByteArray) (Q:List Nat) (L:List En) (w:AI) (e:Ending) (w':AI):Prop:=
 ∃(r:Rw) (b:Int),e= .returned (.tuple #[.slice r.A r.n r.c,.int .i64 b])/\Hid (j8 p S σ k d key Q L w w' r b)
theorem j8.off{p:aA}{S:List Nat}{σ :ag}{k d:Nat}{key:ByteArray}{Q:List Nat}{L:List En}{w w':AI}{r:Rw}{b:Int}(h:j8 p S σ k d key Q L w w' r b):ah S w w':=by
 rcases h with⟨-,_,_,_,_,_,_,-,-,-,-,-,h,-⟩|⟨-,-,-,-,-,_,_,-,h,-⟩
 ·exact h
 ·exact h
def xJ (p:aA) (fc:Nat) (cR:Array IS) (w0:AI) (S0:List Nat) (σ0:ag) (X:List Nat) (iG:Bool) (f:List En->List En) (key:ByteArray) (d:Nat):Prop:=
 ∀(w:AI) (S:List Nat) (σ :ag) (k no:Nat) (qe:ByteArray) (depth:Nat) (P:List Nat) (L:List En),p.At w S σ k->ah S0 w0 w->aj w0 S0 S->Tr.aJ σ d no P L->(P++X).Nodup->(∀n∈X,σ n= σ0 n/\ σ n≠none)->(∀e∈L,Nd.lt e.cell.key qe=false)->Nd.lt key qe=false->Tr.Has iG key L->
  qe.size<=120->depth+d<=10->(p.F\/2*d<=k)->
  Calls prog 163 #[.iface p.T p.v,.int .i64 no,.string qe,.string key,.func (.func fc) #[] cR,.int .i64 depth] w (vU p S σ k d qe (P++X) (f L) w)
theorem zV{p:aA}(hp:dc p){fc:Nat}{cR:Array IS}{w0:AI}{S0:List Nat}{σ0:ag}{X:List Nat}{f:List En->List En}{iG:Bool}(key:ByteArray)(hf:Tr.eK key f)(yq:pL p fc cR w0 S0 σ0 X iG key f):xJ p fc cR w0 S0 σ0 X iG f key 0:=by
 intro w S σ k no qe depth P L h h0 h1 bm cg hX yv gC oM Z5 ZR hk;refine(Hz hp key hf yq h h0 h1 no qe depth bm cg hX yv gC oM Z5 (by omega)).mono ?_;rintro e w' ⟨r,ps,xs,P',σ',S',k',rfl,q1,q2,q3,q4⟩;refine⟨r,0,rfl,sh (.inl ⟨rfl,ps,xs,P',σ',S',k',q1,q2,q3.lY (fun n hn=> ?_),q4⟩)⟩;rw[q2.aa]at hn;obtain⟨x,hx,hn⟩:=abp.1 hn;obtain⟨-,g2,-,g4⟩:=(q2.each x hx).2.2;rw[g2]at hn;obtain⟨y,hy,hn⟩:=abp.1 hn;exact(g4 y hy).kind n hn
theorem oU{w:AI}{S:Nat->Prop}{b o n c:Nat}{ks:List Kd}(h:aV w S ⟨some ⟨b,o,none⟩,n,c⟩ (ks.map Kd.cell))(i:Nat)(hi:i<ks.length):w.cell? ⟨b,o+i*5,none⟩=some (.string ks[i].key)/\w.cell? ⟨b,o+i*5+4,none⟩=some (.int .i64 ks[i].no):=by
 obtain⟨b',o',hA,-,q0,-,-,-,q4⟩:=h.at i (by rw[aae];exact hi);simp only[acI,aeg,and_true]at hA;obtain⟨rfl,rfl⟩:=hA;rw[List.getElem_map]at q0 q4;exact⟨q0,q4⟩
def xU (p:aA) (S:List Nat) (σ :ag) (k d:Nat) (X:List Nat) (F:List En) (ks:List Kd) (w:AI) (v19 v20 v21 v16:IS) (wx:AI):Prop:=
 ∃(a b:Nat) (r:Rw) (ps:List Pt) (xs:List Tr.Pd) (L2:List En) (A M C:List Kd) (key:ByteArray) (σ4:ag) (S4:List Nat) (k4:Nat),v19= .slice r.A r.n r.c/\v20= .int .i64 a/\v21= .int .i64 b/\v16= .int .i64 0/\ks=A++M++C/\A.length=a/\a+M.length=b/\
  gy wx (Cl 0 S4) r ps/\Tr.Uz σ d A M C X F key σ4 ps xs L2/\p.At wx S4 σ4 k4/\k<=k4+2*d/\ah S w wx/\aj w S S4
def Joined (p:aA) (S:List Nat) (σ':ag) (k:Nat) (ps:List Pt) (w w':AI) (r:Rw):Prop:=∃S':List Nat,gy w' (Cl 0 S') r ps/\p.At w' S' σ' k/\ah S w w'/\aj w S S'
theorem Joined.off{p:aA}{S:List Nat}{σ':ag}{k:Nat}{ps:List Pt}{w w':AI}{r:Rw}(h:Joined p S σ' k ps w w' r):ah S w w':=by obtain⟨_,_,_,h,-⟩:=h;exact h
theorem lX{p:aA}{S:List Nat}{σ':ag}{k:Nat}{ps:List Pt}{w w':AI}{e:Ending}(h:gm p S σ' k ps w e w'):∃r:Rw,e= .returned (.tuple #[.slice r.A r.n r.c,.int .i64 0])/\Hid (Joined p S σ' k ps w w' r):=by
 obtain⟨S',r,rfl,h⟩:=h;exact⟨r,rfl,sh ⟨S',h⟩⟩
theorem aZ.here{w:AI}{B g n c:Nat}{S:List Nat}{l:List Ce}(h:aZ w B (.slice (some ⟨g,0,none⟩) n c) l)(hg:g∉S):aV w (Cl 0 S) ⟨some ⟨g,0,none⟩,n,c⟩ l:=by
 obtain⟨h1,h2,h3,h4⟩:=h.as;refine⟨h1,h2,h3,fun i d hd=> ?_⟩;obtain⟨b,o,x,q1,q2,q3⟩:=h4 i d hd;refine⟨b,o,x,q1,⟨⟨abc _,?_⟩,q2.2⟩,q3⟩;simp only[acI,aeg,and_true]at q1;rw[<-q1.1];exact hg
theorem E5{w:AI}{S:Nat->Prop}{jC b1 o1 n1 c1 b2 o2 n2 c2 b3 o3 n3 c3:Nat}{x y z:List Ce}(h:Bk w jC 174 #[.slice (some ⟨b1,o1,none⟩) n1 c1,.slice (some ⟨b2,o2,none⟩) n2 c2,.slice (some ⟨b3,o3,none⟩) n3 c3])(hS:S jC)
  (h1:aV w S ⟨some ⟨b1,o1,none⟩,n1,c1⟩ x) (h2:aV w S ⟨some ⟨b2,o2,none⟩,n2,c2⟩ y) (h3:aV w S ⟨some ⟨b3,o3,none⟩,n3,c3⟩ z) (l1:b1<w.heap.size) (l2:b2<w.heap.size) (l3:b3<w.heap.size):fR 1 PG w S ⟨some ⟨jC,0,none⟩,3,3⟩ [x,y,z]:=by
 refine⟨rfl,AS _,by unfold abi;show 3<=_;omega,fun i d hd=> ?_⟩;have eW:∀ {j:Nat} {u v:IS},[v][j]? =some u->j=0/\v=u:=fun {j u v} hu=>by
  have hj:j=0:=by have:=(List.getElem?_eq_some_iff.1 hu).1;simp at this;omega
  subst hj;exact⟨rfl,by simpa using hu⟩
 match i with
 | 0=>
  obtain rfl:x=d:=by simpa using hd
  refine⟨jC,0,[.slice (some ⟨b1,o1,none⟩) n1 c1],rfl,⟨hS,h.lt⟩,rfl,fun j u hu=> ?_,some ⟨b1,o1,none⟩,n1,c1,rfl,h1⟩;obtain⟨rfl,rfl⟩:=eW hu;exact h.cell 0
 | 1=>
  obtain rfl:y=d:=by simpa using hd
  refine⟨jC,0,[.slice (some ⟨b2,o2,none⟩) n2 c2],rfl,⟨hS,h.lt⟩,rfl,fun j u hu=> ?_,some ⟨b2,o2,none⟩,n2,c2,rfl,h2⟩;obtain⟨rfl,rfl⟩:=eW hu;exact h.cell 1
 | 2=>
  obtain rfl:z=d:=by simpa using hd
  refine⟨jC,0,[.slice (some ⟨b3,o3,none⟩) n3 c3],rfl,⟨hS,h.lt⟩,rfl,fun j u hu=> ?_,some ⟨b3,o3,none⟩,n3,c3,rfl,h3⟩;obtain⟨rfl,rfl⟩:=eW hu;exact h.cell 2
 | i+3=>simp at hd
theorem aV.empty{w:AI}{S:Nat->Prop}(b o c:Nat)(hc:c<=abi):aV w S ⟨Option.some ⟨b,o,none⟩,0,c⟩ []:=⟨rfl,abc _,hc,fun i d hd=>by simp at hd⟩
def K8 (n:Nat) (sm:Bool) (w3:AI) (v:IS) (w:AI):Prop:=∃b:Bool,v= .bool b/\(b=true->n=1/\sm=true)/\(b=false->n=2\/sm=false)/\No w3.heap.size w3 w
theorem vf{p:aA}(hp:dc p){fc:Nat}{cR:Array IS}{w0:AI}{S0:List Nat}{σ0:ag}{X:List Nat}{f:List En->List En}{iG:Bool}(key:ByteArray)(hf:Tr.eK key f)(d:Nat)(ih:xJ p fc cR w0 S0 σ0 X iG f key d):xJ p fc cR w0 S0 σ0 X iG f key (d+1):=by
 intro w S σ k no qe depth P L h h0 h1 bm cg hX yv gC oM Z5 ZR hk;obtain⟨cs,P',rfl,g1,g2,g3,g4,g5,g6,g7⟩:=bm;have tG:=g4.right;have cZ:=Nd.e8 false cs;have g7:=g7 rfl;obtain⟨ks,hB,rfl,rfl,rfl⟩:=Tr.Kids.ph g4;rw[aae]at cZ g7;have CW:ks.length<=100:=by have:Nd.sum false (ks.map Kd.cell)<=488:=g5;omega
 have De:=sh (oY hp h no false _ tG.1 g5 g3);have uX: σ no≠none:=by rw[g3];simp
 obtain⟨fd,rv,-,hm,wO,hd⟩:=hp.drop;have Ea:no∉ks.flatMap (·.P)++X:=(abN.1 (by simpa using cg)).1;have D9:(ks.flatMap (·.P)++X).Nodup:=(abN.1 (by simpa using cg)).2;have kT:∀m∈ks.flatMap (·.P)++X,σ m≠none:=fun m hm=>by
  rcases AT.1 hm with hm|hm
  ·exact(g4.mem m hm).2.2
  ·exact(hX m hm).2
 have zl:∀m∈ks.flatMap (·.P)++X,Tr.cY σ no none m= σ m:=fun m hm=>Tr.dM _ _ (fun e=>Ea (by rw[<-e];exact hm));have HA:=sh h;have fZ:=sh (hp.old h);have z0:decide ((10:Int)<(depth:Int))=false:=decide_eq_false (by omega);have HD:=sh hd;have HB:=sh (hB.congr (σ':=Tr.cY σ no none) fun m hm=>zl m (AT.2 (.inl hm)));have si:=sh D9;have YT:=sh (show ∀n∈X,Tr.cY σ no none n= σ0 n/\Tr.cY σ no none n≠none from fun n hn=>by
  rw[zl n (AT.2 (.inr hn))];exact hX n hn)
 have zx:=sh (show ∀ σ' P2,Tr.aE (Tr.lc (d+1)) (Tr.cY σ no none) (ks.flatMap (·.P)++X) σ' P2->Tr.aE (Tr.lc (d+1)) σ (no::ks.flatMap (·.P)++X) σ' P2 from fun σ' P2 hm=>Tr.aE.tW hm kT uX D9 Ea);have HLW:=sh (show ∀e∈f (ks.flatMap (·.L)),Nd.lt e.cell.key qe=false from fun e he=>by
  rcases hf.mem _ e he with h9|h9
  ·exact yv e h9
  ·rw[h9];exact gC)
 have HNN:=sh uX;have H0:=sh h0;have H1:=sh h1;have HK:=sh hk;have HSU:=sh (show Nd.sum false (ks.map Kd.cell)<=488 from g5);have T0:=sh oM;clear h hd cZ cg tG g3 g4 g5 g6 zl kT uX hX yv h0 h1 D9 Ea hB hk oM;go_enter func163,ntmps163
 go_wp2_with fail
 refine De.out.mono ?_;rintro e w1 ⟨ar,A,c,rfl,au⟩;obtain⟨g,rfl,Kg,tA,-,AE,zi⟩:=au.full (by rw[aae];omega);rw[aae]at AE au;have dC:c<=9223372036854775807:=by unfold abi at zi;omega
 have dD:=sh ar;have sL:=sh au;have J5:=sh (HD.out w1 S σ k no (hp.below HA.out ar) HNN.out);clear ar au zi;go_wp2_with fail
 refine J5.out.mono ?_;rintro e w2 ⟨rfl,S2,gB,dg,fD⟩;have mS:=sh ((ah.ae dD.out S).trans dg);have lj:=sh (fD.mono dD.out.size);have rN:=sh (((sL.out.apart (S:=S) fZ.out).sub (T:=Cl 0 S) (fun b h _=>⟨abc _,h.2⟩)).carry dg fD);have sw:g∉S2:=fun hs=>by
  rcases fD g hs with h8|h8
  ·have:=fZ.out g h8;omega
  ·omega
 have Vn:g<w2.heap.size:=aaf tA dg.size;have sG:=sh gB;clear gB dg fD;have uW:IntKind.i64.wrap ((ks.length:Int)-1)=((ks.length-1:Nat):Int):=by rw[show (ks.length:Int)-1=((ks.length-1:Nat):Int)by omega];exact wrap_i64 _ (by omega)
 go_upto_block 1 with fail
 go_cut [18] from 57 to 69 (fun v wx=>∃j:Nat,v= .int .i64 j/\j<ks.length/\Hid ((∀m (h:m<ks.length),j<m->Nd.lt key ks[m].key=true)/\Nd.lt key (ks.getD j ⟨⟨#[]⟩,0,[],[]⟩).key=false)/\wx=w2)
 case first=>
  go_wp2_with fail
  go_loop [18] (fun i=>∃j:Nat,i= .int .i64 j/\j<ks.length/\Hid (∀m (h:m<ks.length),j<m->Nd.lt key ks[m].key=true)) (fun i=>(intOf i).toNat)
  case atStart=>exact⟨ks.length-1,rfl,by omega,sh (fun m h hm=>by omega)⟩
  case round=>
   obtain⟨j,rfl,hj,HJ⟩:=hrel;obtain⟨c0,c4⟩:=oU rN.out j hj;rw[abU]at c0 c4;obtain⟨kj,zj⟩:∃x,x=ks[j]:=⟨_,rfl⟩;rw[<-zj]at c0 c4;have HKJ:=sh zj;have mV:(0<j/\decide ((0:Int)<(j:Int))=true/\Nd.lt key kj.key=true)\/(0<j/\decide ((0:Int)<(j:Int))=true/\Nd.lt key kj.key=false)\/j=0:=by
    by_cases e:j=0
    ·exact .inr (.inr e)
    ·cases hl:Nd.lt key kj.key
     ·exact .inr (.inl ⟨by omega,decide_eq_true (by omega),rfl⟩)
     ·exact .inl ⟨by omega,decide_eq_true (by omega),rfl⟩
   rcases mV with⟨w1',w2',XF⟩|mV
   ·have y1:acm kj.key.toList key.toList=false:=Nd.lt_asymm XF
    have y2:(kj.key.toList==key.toList)=false:=(Nd.BB XF).2;have hwj:IntKind.i64.wrap ((j:Int)-1)=((j-1:Nat):Int):=by rw[show (j:Int)-1=((j-1:Nat):Int)by omega];exact wrap_i64 _ (by omega)
    have HJ2:=sh (show ∀m (h:m<ks.length),j-1<m->Nd.lt key ks[m].key=true from fun m h hm=>by
     by_cases e:m=j
     ·subst e;rw[<-HKJ.out];exact XF
     ·exact HJ.out m h (by omega))
    clear XF zj;go_wp2_with fail
    go_round
    case rel=>exact⟨j-1,by go_num,by omega,HJ2⟩
    case measure=>simp[intOf];omega
   ·have Df:=sh (show Nd.lt key kj.key=false from by
     rcases mV with⟨-,-,h9⟩|h9
     ·exact h9
     ·subst h9
      obtain⟨k0,t0,e0,e1⟩:=HB.out.first;have:kj=k0:=by rw[HKJ.out];simp[e0]
      rw[this,e1];exact Tr.le_nil key)
    have abt:(0<j/\decide ((0:Int)<(j:Int))=true/\acm kj.key.toList key.toList=true)\/(0<j/\decide ((0:Int)<(j:Int))=true/\acm kj.key.toList key.toList=false/\(kj.key.toList==key.toList)=true)\/j=0:=by
     rcases mV with⟨h7,h8,h9⟩|h9
     ·rcases Nd.iF kj.key key with h|h|h
      ·exact .inl ⟨h7,h8,h⟩
      ·exact .inr (.inl ⟨h7,h8,by rw[h];exact Nd.lZ _,by rw[h];simp⟩)
      ·rw[h9]at h;cases h
     ·exact .inr (.inr h9)
    have HMJ:=sh zj;clear mV zj;have rL:=sh (show (∀m (h:m<ks.length),j<m->Nd.lt key ks[m].key=true)/\Nd.lt key (ks.getD j ⟨⟨#[]⟩,0,[],[]⟩).key=false from ⟨HJ.out,by
     rw[show ks.getD j ⟨⟨#[]⟩,0,[],[]⟩=kj by rw[HKJ.out];simp[List.getD,aaG hj]];exact Df.out⟩)
    rcases abt with⟨q1,q2,q3⟩|⟨q1,q2,q3,q4⟩|rfl;all_goals
     go_wp2_with fail
     go_meet
     exact⟨_,rfl,hj,rL,rfl⟩
 case rest=>
  obtain⟨j,rfl,hj,HJ,hwc⟩:=hcut;obtain rfl:w2=wc:=hwc.symm;obtain⟨c0,c4⟩:=oU rN.out j hj;rw[abU]at c0 c4;have Ek:ks=ks.take j++[ks[j]]++ks.drop (j+1):=by
   rw[OF,List.singleton_append,<-abP hj,List.take_append_drop]
  have Kh:ks.getD j ⟨⟨#[]⟩,0,[],[]⟩=ks[j]:=by simp[List.getD,aaG hj]
  rw[Kh]at HJ;have HC:=sh (show ∀c∈ks.drop (j+1),Nd.lt key c.key=true from fun c hc=>by
   obtain⟨m,hm,rfl⟩:=List.getElem_of_mem hc;rw[abS]at hm;rw[List.getElem_drop];exact HJ.out.1 _ (by omega) (by omega))
  have hle:=HJ.out.2;obtain⟨kj,zj⟩:∃x,x=ks[j]:=⟨_,rfl⟩;rw[<-zj]at c0 c4 Ek hle;have hB:=HB.out;have jD:kj∈ks:=by rw[zj];exact List.getElem_mem hj
  obtain⟨⟨SQ,-⟩,hstk⟩:=hB.each kj jD;have abg:∀n∈kj.P,n∈ks.flatMap (·.P):=fun n hn=>abp.2 ⟨kj,jD,hn⟩;have aaA:(kj.P++X).Nodup:=by
   have h9:=si.out;rw[Ek]at h9;simp only[List.flatMap_append,List.flatMap_cons,List.flatMap_nil,List.append_nil,OF]at h9;have n1:=(aai.1 h9).2.1;obtain⟨a1,a2,a3⟩:=aai.1 n1;obtain⟨b1,b2,b3⟩:=aai.1 a2;exact aai.2 ⟨a1,b2,fun a ha b hb=>a3 a ha b (by simp[hb])⟩
  have S8:∀e∈kj.L,Nd.lt e.cell.key kj.key=false:=hB.sep.2 kj.rg (List.mem_map_of_mem jD);have hih:=(ih w2.drew S2 (Tr.cY σ no none) k kj.no kj.key (depth+1) kj.P kj.L (hp.below sG.out (IN _ w2).drew) ((H0.out.then mS.out H1.out).drew) (H1.out.trans lj.out H0.out.size) hstk aaA YT.out S8 hle (T0.out.O9 Ek hB HC.out hle) SQ (by omega) (HK.out.imp id (fun _=>by omega)));rw[show ((depth+1:Nat):Int)=(depth:Int)+1 by omega]at hih;have HIH:=sh hih;clear hih;have HKJ:=sh zj;have FE:=sh Ek;have Df:=sh hle;have Qz:kj.no<512:=by obtain⟨_,_,_,_,g,-⟩:=hstk;exact g
  clear Ek Kh hle hB jD SQ hstk abg aaA S8 zj;have bH:=sh (show ∀W:AI,ah S2 w2 W->W.cell? ⟨g,j*5,none⟩=some (.string kj.key)/\W.cell? ⟨g,j*5+4,none⟩=some (.int .i64 kj.no) from fun W hb=>⟨(hb.cell (p:=⟨g,j*5,none⟩) Vn sw).trans c0,(hb.cell (p:=⟨g,j*5+4,none⟩) Vn sw).trans c4⟩);have Uc:=sh ((ah.refl S2 w2).drew);have hwd:IntKind.i64.wrap ((depth:Int)+1)=(depth:Int)+1:=acu _ (by omega);go_wp2_with fail
  go_region_held3 (fun W=>W.cell? ⟨g,j*5,none⟩=some (.string kj.key)/\W.cell? ⟨g,j*5+4,none⟩=some (.int .i64 kj.no)) (first|(with_reducible exact bH.out _ Uc.out)|(with_reducible exact bH.out _ (Uc.out.trans (j8.off mZ.out)))) (first
   | (go_at_call 163;(with_reducible refine HIH.out.mono ?_);rintro e w3 ⟨r3,re,rfl,mZ⟩))
  obtain⟨rA,rn,rc⟩:=r3;rcases mZ.out with⟨rfl,ps,xs,P1,σ1,S3,k3,Mz,IL,qi,df,dx,eA,gQ⟩|⟨hF,rfl,rfl,rfl,rfl,σ3,Bc⟩
  ·have KI:=sh Mz
   have KJ:=sh IL;have Pu:=sh qi;have zo:=sh df;have zy:=sh (Uc.out.trans eA);have zt:=sh (gQ.mono (w:=w2) (AS _));have wP:=IL;clear Mz IL qi df eA gQ mZ;obtain⟨x0,t0,CY,Bj⟩:=wP.head;have QO:ps.length=xs.length:=by rw[wP.Ws,aae]
   obtain⟨bp,op,Y8,Zp,qp,p0,p1,p2,uY⟩:=KI.out.at 0 (by rw[QO,CY];simp);simp only at Y8;subst Y8;have hp0:ps[0]'(by rw[QO,CY];simp)=⟨kj.key,d==0,x0.cs⟩:=by
    have e:ps=xs.map (Tr.Pd.pt (d==0)):=wP.Ws;simp only[e,CY,List.map_cons,List.getElem_cons_zero,Tr.Pd.pt,Bj]
   rw[hp0]at p0 p1 uY;simp only[Nat.zero_mul,Nat.add_zero]at p0 p1 p2 uY;have Gg:rn=xs.length:=by have:=KI.out.1;simp only at this;rw[this,QO]
   have QS:=KI.out.2.1;have CX:=KI.out.2.2.1;simp only at QS CX;have afM:rc<=9223372036854775807:=by unfold abi at CX;omega
   have QX:=wP.each x0 (by rw[CY];simp);obtain⟨leaf,jO⟩:∃leaf,leaf=(d==0):=⟨_,rfl⟩;have Dl:=sh fun(W:AI) (hb:No w3.heap.size w3 W)=>JB ⟨kj.key,d==0,x0.cs⟩ qp (Cl 0 S3) W (uY.below hb) (by have:=Nd.e8 (d==0) x0.cs;have:=QX.2.1;show x0.cs.length<=10000;omega) QX.2.2.right.2;simp only at Dl;rw[<-jO]at p1 Dl;obtain⟨qA,qn,qc⟩:=qp;simp only at p2 Dl;have ZG:=Zp.2;have HQP:=sh uY;have HX0:=sh CY;have HXK:=sh Bj;have T8:=sh jO;have aj9:=sh QX;have ad1:=sh Zp;have gT:decide ((1:Int)<(ks.length:Int))=true:=decide_eq_true (by omega);have Iv:(xs.length=1/\((xs.length:Int)==1)=true)\/(xs.length=2/\((xs.length:Int)==1)=false):=by
    rcases wP.count with h9|⟨h9,-⟩
    ·exact .inl ⟨h9,by rw[h9];rfl⟩
    ·exact .inr ⟨h9,by rw[h9];rfl⟩
   subst Gg;obtain⟨sm,rh⟩:∃sm,sm=decide (Nd.sum (d==0) x0.cs<122):=⟨_,rfl⟩;have YK:=sh rh;rw[<-jO]at rh;rw[<-rh]at Dl;clear QO hp0 CX QX Zp uY CY Bj jO wP rh
   go_upto_region 19 with fail
   go_cut [108] (fun v wx=>K8 xs.length sm w3 v wx)
   case first=>
    rcases Iv with⟨h8,h9⟩|⟨h8,h9⟩
    ·have H8:=sh h8
     have h80:0<xs.length:=by omega
     clear h8;cases sm
     all_goals
      go_wp2_with (first
       | (go_at_call 222;(with_reducible refine(Dl.out _ (IN _ _)).mono ?_);rintro e w4 ⟨rfl,b7⟩;have fx:=sh b7;clear b7)
       | fail)
      go_meet
      first|exact⟨true,rfl,fun _=>⟨H8.out,rfl⟩,fun h=>(Bool.noConfusion h),fx.out⟩|exact⟨false,rfl,fun h=>(Bool.noConfusion h),fun _=> .inr rfl,fx.out⟩
    ·have H8:=sh h8
     clear h8;go_wp2_with fail
     go_meet
     exact⟨false,rfl,fun h=>(Bool.noConfusion h),fun _=> .inl H8.out,IN _ _⟩
   case rest=>
    obtain⟨b,rfl,ar,az,b7⟩:=hcut;have fx:=sh b7;have bh:=sh ar;have bz:=sh az;clear ar az b7
    go_upto_if 108 with fail
    go_cut [19,20,21,16] (fun v19 v20 v21 v16 wx=>xU p S2 (Tr.cY σ no none) k d X (f (ks.flatMap (·.L))) ks w2 v19 v20 v21 v16 wx)
    case first=>
     cases b with
     | false=>
      have hg:∀x∈xs,Tr.Good (d==0) x.cs x.L/\Tr.GY d x.L:=by
       rcases bz.out rfl with h9|h9
       ·rcases KJ.out.count with h8|⟨-,h8⟩
        ·omega
        ·exact h8
       ·rcases KJ.out.count with h8|⟨-,h8⟩
        ·obtain⟨x,e,-,-,-,-,-,MC⟩:=KJ.out.one h8
         have e2:x0=x:=by have:=HX0.out;rw[e]at this;simp at this;exact this.1.symm
         subst e2;have nS:¬ Nd.sum (d==0) x0.cs<122:=of_decide_eq_false (YK.out.symm.trans h9);rw[e];intro y hy;obtain rfl:=List.mem_singleton.1 hy;exact⟨MC.Qi (by omega),MC.fat (by omega)⟩
        ·exact h8
      have LU:=HB.out;rw[FE.out]at LU;have zv:=sh (Tr.Re hf LU HC.out Df.out KJ.out Pu.out hg);rw[<-FE.out]at zv;have KT:=sh (show xU p S2 (Tr.cY σ no none) k d X (f (ks.flatMap (·.L))) ks w2 (.slice (some ⟨bp,op,none⟩) xs.length rc) (.int .i64 j) (.int .i64 ((j:Int)+1)) (.int .i64 0) wc from
       ⟨j,j+1,⟨some ⟨bp,op,none⟩,xs.length,rc⟩,ps,xs,_,_,_,_,_,σ1,S3,k3,rfl,rfl,by go_num,rfl,FE.out,by rw[abv];omega,rfl,KI.out.below fx.out,zv.out,hp.below zo.out fx.out,dx,zy.out.trans (ah.ae fx.out S2),zt.out⟩)
      clear hg LU;go_wp2_with fail
      go_meet
      exact KT.out
     | true=>
      obtain⟨eW,rh⟩:=bh.out rfl;obtain⟨x,e,-,hP1,hL1,-,-,MC⟩:=KJ.out.one eW;have e2:x0=x:=by have:=HX0.out;rw[e]at this;simp at this;exact this.1.symm
      subst e2;have nS:Nd.sum (d==0) x0.cs<122:=of_decide_eq_true (YK.out.symm.trans rh);have hxc:(d==0)=false->0<x0.cs.length:=by
       intro qV;cases d with
       | zero=>cases qV
       | succ d=>
        obtain⟨ks9,CV,h1,-⟩:=Tr.Kids.ph MC;obtain⟨a,t,h2,-⟩:=CV.first;rw[h1,h2];simp
      have MP:x0.cs.length<=1000:=by have:=Nd.e8 (d==0) x0.cs;omega
      have VB:=Pu.out;rw[hP1]at VB;rw[<-hL1]at MC;have HPX:=sh MC;have Yg:=sh VB;have XK:=sh (hp.below zo.out fx.out);have Pz:=sh ((rN.out.carry zy.out zt.out).below fx.out);have W0:=sh (HQP.out.below fx.out);have u0:=(fx.out.cell (p:=⟨bp,op,none⟩) ZG).trans p0;have u1:=(fx.out.cell (p:=⟨bp,op+1,none⟩) ZG).trans p1;have u2:=(fx.out.cell (p:=⟨bp,op+2,none⟩) ZG).trans p2;have Va:bp<wc.heap.size:=aaf ZG fx.out.size;have Vb:bp∉S3:=ad1.out.1.2;have Pp:=sh (show ∀W:AI,ah S3 wc W->W.cell? ⟨bp,op,none⟩=some (.string kj.key)/\W.cell? ⟨bp,op+1,none⟩=some (.bool leaf)/\W.cell? ⟨bp,op+2,none⟩=some (.slice qA qn qc) from fun W hb=>⟨(hb.cell (p:=⟨bp,op,none⟩) Va Vb).trans u0,(hb.cell (p:=⟨bp,op+1,none⟩) Va Vb).trans u1,(hb.cell (p:=⟨bp,op+2,none⟩) Va Vb).trans u2⟩);have xO:=sh ((ah.refl S3 wc).drew);have akB:0<xs.length:=by omega
      clear eW rh e hP1 hL1 MC VB p0 p1 p2;have hjj:j=0\/∃m,j=m+1:=by
       cases j with
       | zero=>exact .inl rfl
       | succ m=>exact .inr ⟨m,rfl⟩
      rcases hjj with rfl|⟨m,rfl⟩
      ·obtain⟨k1,dw⟩:∃y,y=ks[1]:=⟨_,rfl⟩
       have tL:ks=[]++[kj,k1]++ks.drop 2:=by
        have h1:=FE.out;rw[List.take_zero,adn,abP (show 0+1<ks.length by omega)]at h1;rw[adn,dw];exact h1
       have LU:=HB.out;have LW:=si.out;rw[tL]at LU LW;obtain⟨kZ,g1,g8,g3,g9,⟨xs2,rY⟩,dJ,eF⟩:=Tr.Ja hf LU LW (fun c hc=>HC.out c (by
        rw[abP (show 0+1<ks.length by omega)];rcases IT.1 hc with rfl|hc
        ·exact IT.2 (.inl dw)
        ·exact IT.2 (.inr hc))) Df.out Yg.out HPX.out nS hxc
       rw[<-tL]at rY;have ra:aV wc (Cl 0 S3) ⟨some ⟨g,0,none⟩,2,c⟩ [kj.cell,k1.cell]:=by
        have h9:=Pz.out.take 2 (by rw[aae];omega);have e9:(ks.map Kd.cell).take 2=[kj.cell,k1.cell]:=by
         rw[tL];rfl
        rw[e9]at h9;exact h9
       have Aw:Calls prog 223 #[.iface p.T p.v,.slice (some ⟨g,0,none⟩) 2 c,.int .i64 0,.agg #[.string kj.key,.bool leaf,.slice qA qn qc]] wc.drew (gm p S3 (Tr.cY σ1 k1.no none) k3 (Tr.ct kj.key leaf (x0.cs++Nd.first leaf k1.key kZ)) wc.drew):=by
        rw[<-T8.out]at g1 g8 g3 dJ eF;exact Eu hp (w:=wc.drew) (hp.below XK.out (IN _ wc).drew) leaf kj.cell k1.cell _ c (ra.below (IN _ wc).drew) kj.key ⟨qA,qn,qc⟩ x0.cs kZ (W0.out.below (IN _ wc).drew) g1 g8 g3 g9 MP eF dJ
       have Da:=sh (Aw.mono fun e w' h=>lX h);have zv:=sh rY;have Ur:=sh tL;clear Aw rY tL LU LW g1 g8 g3 g9 dJ eF ra dw;have hw0:IntKind.i64.wrap 0=0:=acu _ (by omega);have ar:(2:Int)<=(c:Int):=by omega
       have az:2<=c:=by omega
       have nQ:(if (ks.length:Int)<2 then (ks.length:Int)else 2)=2:=by rw[if_neg (by omega)]
       go_wp2_with fail
       go_region_held3 (fun W=>W.cell? ⟨bp,op,none⟩=some (.string kj.key)/\W.cell? ⟨bp,op+1,none⟩=some (.bool leaf)/\W.cell? ⟨bp,op+2,none⟩=some (.slice qA qn qc)) (first|(with_reducible exact Pp.out _ xO.out)|(with_reducible exact Pp.out _ (xO.out.trans (Joined.off Vt.out)))) (first
        | (go_at_call 223;(with_reducible refine Da.out.mono ?_);rintro e w5 ⟨r5,rfl,Vt⟩))
       all_goals
        have hj6:=Vt.out;rw[T8.out]at hj6;obtain⟨S5,MB,ym,kV,AD⟩:=hj6;have AO:ah S2 w2 w5:=(zy.out.trans (ah.ae fx.out S2)).then ((ah.ae (IN _ wc).drew S3).trans kV) zt.out;have vn:aj w2 S2 S5:=zt.out.trans (AD.mono (w:=w3) fx.out.size) zy.out.size;have KT:=sh (show xU p S2 (Tr.cY σ no none) k d X (f (ks.flatMap (·.L))) ks w2 (.slice r5.A r5.n r5.c) (.int .i64 0) (.int .i64 2) (.int .i64 0) w5 from
         ⟨0,2,r5,_,xs2,_,[],[kj,k1],ks.drop 2,kj.key,_,S5,k3,rfl,rfl,rfl,rfl,Ur.out,rfl,rfl,MB,zv.out,ym,dx,AO,vn⟩)
        clear Vt MB ym kV AD AO vn;go_wp2_with fail
        go_meet
        exact KT.out
      ·obtain⟨k0,oe⟩:∃y,y=ks[m]:=⟨_,rfl⟩
       have tL:ks=ks.take m++[k0,kj]++ks.drop (m+2):=by
        have h1:=FE.out;rw[List.take_succ_eq_append_getElem (show m<ks.length by omega),<-oe]at h1;simpa using h1
       have LU:=HB.out;have LW:=si.out;rw[tL]at LU LW;obtain⟨kZ,g1,g8,g3,g9,⟨xs2,rY⟩,dJ,eF⟩:=Tr.Jb hf LU LW HC.out Df.out Yg.out HPX.out nS hxc;rw[<-tL]at rY;have ra:aV wc (Cl 0 S3) ⟨some ⟨g,m*5,none⟩,2,c-m⟩ [k0.cell,kj.cell]:=by
        have h9:=(Pz.out.drop m (by rw[aae];omega)).take 2 (by rw[abS,aae];omega);have e9:((ks.map Kd.cell).drop m).take 2=[k0.cell,kj.cell]:=by
         rw[tL,OF,abH,List.drop_left' (by rw[aae,abv];omega)];rfl
        rw[e9,abU]at h9;exact h9
       have Aw:Calls prog 223 #[.iface p.T p.v,.slice (some ⟨g,m*5,none⟩) 2 (c-m),.int .i64 1,.agg #[.string kj.key,.bool leaf,.slice qA qn qc]] wc.drew (gm p S3 (Tr.cY σ1 k0.no none) k3 (Tr.ct k0.key leaf (kZ++Nd.first leaf kj.key x0.cs)) wc.drew):=by
        rw[<-T8.out]at g1 g8 g3 dJ eF;exact Ev hp (w:=wc.drew) (hp.below XK.out (IN _ wc).drew) leaf k0.cell kj.cell _ (c-m) (ra.below (IN _ wc).drew) kj.key ⟨qA,qn,qc⟩ kZ x0.cs (W0.out.below (IN _ wc).drew) g1 g8 g3 (fun hl=>hxc (by rw[<-T8.out];exact hl)) g9 MP eF dJ
       have Da:=sh (Aw.mono fun e w' h=>lX h);have zv:=sh rY;have Ur:=sh tL;clear Aw rY tL LU LW g1 g8 g3 g9 dJ eF ra oe;have ha1:((m+1:Nat):Int)-1=(m:Int):=by omega
       have ha2:(m:Int)+1-1=(m:Int):=by omega
       have kI:(if (0:Int)<(m:Int)then (m:Int)else 0)=(m:Int):=by split<;>omega
       have nQ:(if (ks.length:Int)<2 then (ks.length:Int)else 2)=2:=by rw[if_neg (by omega)]
       have akX:(if 0<m then (m:Int)else 0)=(m:Int):=by split<;>omega
       have hmx:(if (m:Int)+1+1<2 then 2 else (m:Int)+1+1)=(m:Int)+1+1:=by split<;>omega
       have akZ:(m:Int)+1+1<=(c:Int):=by omega
       have ak0:m+1+1<=c:=by omega
       have ak1:(m:Int)<=(m:Int)+1+1:=by omega
       have ak2:(0:Int)<=(m:Int)+1+1:=by omega
       have kL:m<=m+1+1:=by omega
       have QD:¬ (c=m):=by omega
       have ri:((m:Int)+1+1).toNat=m+1+1:=by omega
       have zh:(m:Int)+1-(m:Int)=1:=by omega
       have Gn:IntKind.i64.wrap 1=1:=acu _ (by omega);have mE:m+1+1-m=2:=by omega
       go_wp2_with fail
       go_region_held3 (fun W=>W.cell? ⟨bp,op,none⟩=some (.string kj.key)/\W.cell? ⟨bp,op+1,none⟩=some (.bool leaf)/\W.cell? ⟨bp,op+2,none⟩=some (.slice qA qn qc)) (first|(with_reducible exact Pp.out _ xO.out)|(with_reducible exact Pp.out _ (xO.out.trans (Joined.off Vt.out)))) (first
        | (go_at_call 223;(with_reducible refine Da.out.mono ?_);rintro e w5 ⟨r5,rfl,Vt⟩))
       all_goals
        have hj6:=Vt.out;rw[T8.out]at hj6;obtain⟨S5,MB,ym,kV,AD⟩:=hj6;have AO:ah S2 w2 w5:=(zy.out.trans (ah.ae fx.out S2)).then ((ah.ae (IN _ wc).drew S3).trans kV) zt.out;have vn:aj w2 S2 S5:=zt.out.trans (AD.mono (w:=w3) fx.out.size) zy.out.size;have KT:=sh (show xU p S2 (Tr.cY σ no none) k d X (f (ks.flatMap (·.L))) ks w2 (.slice r5.A r5.n r5.c) (.int .i64 m) (.int .i64 ((m:Int)+1+1)) (.int .i64 0) w5 from
         ⟨m,m+2,r5,_,xs2,_,ks.take m,[k0,kj],ks.drop (m+2),k0.key,_,S5,k3,rfl,rfl,by go_num,rfl,Ur.out,by rw[abv];omega,rfl,MB,zv.out,ym,dx,AO,vn⟩)
        clear Vt MB ym kV AD AO vn;go_wp2_with fail
        go_meet
        exact KT.out
    case rest=>
     obtain⟨a,b9,r,ps9,xs9,L2,AA,MM,CC,amH,σ4,S4,k4,rfl,rfl,rfl,rfl,jb,hA,hM,tG,rY,cL,fE,bS,bZ⟩:=hcut;obtain⟨P2,pJ,kL⟩:=rY.parts;have LW:=kL.nodup;rw[pJ.aa]at LW;have eF:∀x∈xs9,Tr.Part σ4 d x.cs x.P x.L/\Nd.sum (d==0) x.cs<=488/\Tr.Good (d==0) x.cs x.L:=fun x hx=>⟨(pJ.each x hx).2.2,(pJ.each x hx).2.1,(rY.Qi x hx).1⟩;have MP:xs9.length<=2:=by rcases pJ.count with h|h<;>omega
     have al9:0<xs9.length:=by rcases pJ.count with h|h<;>omega
     have VU:=tG;rw[pJ.Ws]at VU;have WV:=sh (tU hp cL LW eF VU (abc _) (HK.out.imp id (fun _=>by omega)) (by omega));have zv:=sh rY;have Pq:=sh jb;have hAl:a<=ks.length:=by rw[jb,BY,BY];omega
     have gH:b9<=ks.length:=by rw[jb,BY,BY];omega
     have OH:=sh hA;have HML:=sh hM;have Pv:=sh bS;have Pn:=sh bZ;have adV:=sh (rN.out.carry bS bZ);have hgW:g<wc.heap.size:=aaf Vn bS.size;have alK:=sh (hp.old cL);have ai7:=sh cL;have Po:=sh (show k<=(k4-xs9.length)+2*(d+1)by omega);clear rY jb hA hM bS bZ cL fE tG VU eF LW kL pJ;go_wp2_with fail
     refine WV.out.mono ?_;rintro e w6 (⟨A',c',kW,σ',rfl,dP,rZ,Bd,AL,S6,ki,gY,ju,Eb⟩|⟨hF,rfl,σ',S6,ki,gY,ju⟩)
     ·have D7:0<kW.length/\kW.length<=2:=by
       have:=congrArg List.length rZ;rw[aae,aae]at this;omega
      obtain⟨D7,ah8⟩:=D7;obtain⟨g6,rfl,Z7,Z8,-,Vo,D4⟩:=dP.full (by rw[aae];omega);obtain⟨cM,VC,Tu⟩:=zv.out.made (by rw[<-Pq.out];exact HB.out) (by rw[<-Pq.out];exact si.out) rZ Bd AL;rw[<-Pq.out]at VC Tu;have sy:Nd.sum false ((AA++kW++CC).map Kd.cell)<=750:=by have:=HSU.out;omega
      have eX:=cM.right.2;obtain⟨xsF,Ee⟩:=cM.parts qe HLW.out Z5 sy;have Vd:(ks.map Kd.cell).take a++(kW.map Kd.cell++(ks.map Kd.cell).drop b9)=(AA++kW++CC).map Kd.cell:=by
       rw[Pq.out,<-OH.out];simp only[abH,OF];rw[List.take_left' (by simp),List.drop_append,acF (by simp;have:=HML.out;have:=OH.out;omega),List.drop_append,acF (by simp;have:=HML.out;have:=OH.out;omega),adn,adn,show b9-(AA.map Kd.cell).length-(MM.map Kd.cell).length=0 by simp;have:=HML.out;have:=OH.out;omega,List.drop_zero]
      have VZ:=adV.out.carry gY ju;have afS:∃o3,(if c=b9 then (some ⟨g,0,none⟩:Option Addr)else some ⟨g,b9*5,none⟩)=some ⟨g,o3,none⟩/\aV w6 (Cl 0 S6) ⟨some ⟨g,o3,none⟩,ks.length-b9,c-b9⟩ ((ks.map Kd.cell).drop b9):=by
       by_cases CS:c=b9
       ·refine⟨0,by rw[if_pos CS],?_⟩
        have e1:(ks.map Kd.cell).drop b9=[]:=acF (by rw[aae];omega);have e2:ks.length-b9=0:=by omega
        rw[e1,e2];exact aV.empty _ _ _ (by unfold abi;omega)
       ·refine⟨b9*5,by rw[if_neg CS],?_⟩
        have h9:=VZ.drop b9 (by rw[aae];omega)
        rwa [abU]at h9
      obtain⟨o3,Gc,Tq⟩:=afS;have Tp:=VZ.take a (by rw[aae];omega);have tJ:=dP.here (Eb g6 rfl);obtain⟨fl,CU⟩:∃fl,fl=(AA++kW++CC).map Kd.cell:=⟨_,rfl⟩;rw[<-CU]at Vd eX sy Ee;have aln:g<w6.heap.size:=aaf hgW gY.size;have QJ:=hp.old ki;have ae7:0<fl.length:=by rw[CU];simp;omega
      have alh:fl.length<=200:=by have:=Nd.e8 false fl;omega
      have gX:=sh (show No w6.heap.size w6 (w6.alloc (.cells #[.slice (some ⟨g,0,none⟩) a c,.slice (some ⟨g6,0,none⟩) kW.length c',.slice (some ⟨g,o3,none⟩) (ks.length-b9) (c-b9)] 174)).drew from ((IN _ _).alloc (AS _) _).drew);have Aw:Calls prog 224 #[.slice (some ⟨w6.heap.size,0,none⟩) 3 3] (w6.alloc (.cells #[.slice (some ⟨g,0,none⟩) a c,.slice (some ⟨g6,0,none⟩) kW.length c',.slice (some ⟨g,o3,none⟩) (ks.length-b9) (c-b9)] 174)).drew (iq fl (w6.alloc (.cells #[.slice (some ⟨g,0,none⟩) a c,.slice (some ⟨g6,0,none⟩) kW.length c',.slice (some ⟨g,o3,none⟩) (ks.length-b9) (c-b9)] 174)).drew):=by
       have hk:=(Bk.new w6 174 #[.slice (some ⟨g,0,none⟩) a c,.slice (some ⟨g6,0,none⟩) kW.length c',.slice (some ⟨g,o3,none⟩) (ks.length-b9) (c-b9)]).drew;have hz:=ke ⟨some ⟨w6.heap.size,0,none⟩,3,3⟩ [(ks.map Kd.cell).take a,kW.map Kd.cell,(ks.map Kd.cell).drop b9] (Cl 0 S6) _ (E5 hk ⟨abc _,fun hh=>by have:=QJ _ hh;omega⟩ (Tp.below gX.out) (tJ.below gX.out) (Tq.below gX.out) (by simp;omega) (by simp;omega) (by simp;omega));have e9:[(ks.map Kd.cell).take a,kW.map Kd.cell,(ks.map Kd.cell).drop b9].flatten=fl:=by rw[<-Vd];simp
       rw[e9]at hz;exact hz ae7 (by omega) (by simp)
      have Da:=sh Aw;have kR:=sh (show No w6.heap.size w6 w6.drew from (IN _ _).drew);have zz:=sh fun(W:AI) (A:Option Addr) (c:Nat) (B:Nat) (au:aZ W B (.slice A fl.length c) fl) (hB:w6.heap.size<=B) (hb:No w6.heap.size w6 W)=>(show Calls prog 162 #[.string qe,.bool false,.slice A fl.length c] W (mo 0 S6 (Tr.ct qe false fl) W) from
       il qe false ⟨A,fl.length,c⟩ fl 0 S6 W (au.as.sub (fun b h1 _=>⟨abc _,fun hh=>by have:=QJ b hh;omega⟩)) (fun b hh=>aaf (QJ b hh) hb.size) (abc _) eX sy)
      have bV:=sh (show ∀(r:Rw) (w8:AI),No w6.heap.size w6 w8->gy w8 (Cl 0 S6) r (Tr.ct qe false fl)->j8 p S σ k (d+1) qe (no::ks.flatMap (·.P)++X) (f (ks.flatMap (·.L))) w w8 r 0 from fun r w8 vj QN=>
       .inl ⟨rfl,_,xsF,_,σ',S6,_,QN,Ee,zx.out σ' _ VC,hp.below ki vj,Po.out,mS.out.then ((Pv.out.then gY Pn.out).trans (ah.ae vj S2)) lj.out,lj.out.trans (Pn.out.trans ju Pv.out.size) mS.out.size⟩)
      have ak3:(b9:Int)<=(ks.length:Int):=by omega
      have ak4:(a:Int)<=(c:Int):=by omega
      have ak5:a<=c:=by omega
      have aeX:c'<=9223372036854775807:=by unfold abi at D4;omega
      clear Aw VZ Tp tJ Tq dP Eb ki gY ju Ee cM VC Tu sy eX Vd CU QJ rZ Bd AL D4;go_wp2_with fail
      go_region_held3 (fun W=>No w6.heap.size w6 W) (first|(with_reducible exact kR.out)|(with_reducible exact gX.out)|(with_reducible exact U7)|(with_reducible exact jN)) (first
       | (go_at_call 224;(with_reducible refine Da.out.mono ?_);rintro e w7 ⟨yn,A7,c7,rfl,AR⟩;have jN:=gX.out.trans (yn.mono gX.out.size))
       | (go_at_call 162;(with_reducible refine(zz.out _ _ _ _ AR gX.out.size jN).mono ?_);rintro e w8 ⟨vj,r8,rfl,QN⟩;have U7:=jN.trans (vj.mono jN.size)))
      all_goals
       have HE:=sh (bV.out r8 w8 U7 QN);clear yn AR jN vj QN U7;go_wp2_with fail
       go_ret2
       exact⟨r8,0,rfl,HE⟩
     ·have bV:=sh (show j8 p S σ k (d+1) qe (no::ks.flatMap (·.P)++X) (f (ks.flatMap (·.L))) w w6 ⟨none,0,0⟩ 9 from
       .inr ⟨hF,rfl,rfl,rfl,rfl,σ',S6,ki,mS.out.then (Pv.out.then gY Pn.out) lj.out,lj.out.trans (Pn.out.trans ju Pv.out.size) mS.out.size⟩)
      clear ki gY ju;go_wp2_with fail
      go_ret2
      exact⟨⟨none,0,0⟩,9,rfl,bV⟩
  ·have bV:=sh (show j8 p S σ k (d+1) qe (no::ks.flatMap (·.P)++X) (f (ks.flatMap (·.L))) w w3 ⟨none,0,0⟩ 9 from
    .inr ⟨hF,rfl,rfl,rfl,rfl,σ3,by
     obtain⟨S3,h1,h2,h3⟩:=Bc;exact⟨S3,h1,mS.out.then (Uc.out.trans h2) lj.out,lj.out.trans (h3.mono (w:=w2) (AS _)) mS.out.size⟩⟩)
   clear Bc mZ;go_wp2_with fail
   go_ret2
   exact⟨⟨none,0,0⟩,9,rfl,bV⟩
end Go.Proofs.YtjbcbnemdhbhbaaGreatDoor
