import Derived.Test.YtjbcbnemdhbhbaaGreatDoorA16
import Derived.Test.YtjbcbnemdhbhbaaGreatDoorA8
set_option maxRecDepth 100000
set_option linter.unusedVariables false
set_option linter.unusedSimpArgs false
set_option maxHeartbeats 40000000
open Go renaming Value→No,World→AI,maxLen→abj
open Go.Addr.mk renaming injEq→adP
open Go.IntWalk renaming i64_in→acq
open Go.Lib renaming hid→sh
open Go.Op renaming bytesLess→acj
open Go.RowKit renaming Below→IT
open Go.RowKit.Below renaming refl→BY
open List renaming append_assoc→aaa,drop_eq_getElem_cons→abM,drop_of_length_le→acE,getElem?_eq_getElem→aaG,length_append→AT,length_drop→abQ,length_map→IS,length_take→abx,map_append→abI,mem_append→By,mem_cons→OF,mem_flatMap→abr,nil_append→acI,nodup_append→aag,nodup_cons→abJ
open Nat renaming le_refl→AS,lt_of_lt_of_le→aal,zero_add→abR,zero_le→abi
open Option.some renaming injEq→acx
namespace Go.Proofs.YtjbcbnemdhbhbaaGreatDoor
open Go.Proofs.Tryz
open Go.RowKit
def ke (p:ay) (S:List Nat) (σ :ag) (k d:Nat) (key:ByteArray) (Q:List Nat) (L:List En) (w w':AI) (r:Rw) (b:Int):Prop:=
 (b=0/\∃(ps:List Pt) (xs:List Tr.Pd) (P':List Nat) (σ':ag) (S':List Nat) (k':Nat),gF w' (Cl 0 S') r ps/\Tr.Parts σ' d key ps P' L xs/\Tr.aE (Tr.lc d) σ Q σ' P'/\p.At w' S' σ' k'/\k<=k'+2*d/\ah S w w'/\aj w S S')\/
 (p.F/\b=9/\r.A=none/\r.n=0/\r.c=0/\∃ σ',Step p S w w' σ' 0)
def wW (p:ay) (S:List Nat) (σ :ag) (k d:Nat) (key:ByteArray) (Q:List Nat) (L:List En) (w:AI) (e:Ending) (w':AI):Prop:=
 ∃(r:Rw) (b:Int),e= .returned (.tuple #[.slice r.A r.n r.c,.int .i64 b])/\Hid (ke p S σ k d key Q L w w' r b)
theorem ke.off{p:ay}{S:List Nat}{σ :ag}{k d:Nat}{key:ByteArray}{Q:List Nat}{L:List En}{w w':AI}{r:Rw}{b:Int}(h:ke p S σ k d key Q L w w' r b):ah S w w':=by
 rcases h with⟨-,_,_,_,_,_,_,-,-,-,-,-,h,-⟩|⟨-,-,-,-,-,_,_,-,h,-⟩
 ·exact h
 ·exact h
def yv (p:ay) (fc:Nat) (dx:Array No) (w0:AI) (S0:List Nat) (σ0:ag) (X:List Nat) (iK:Bool) (f:List En->List En) (key:ByteArray) (d:Nat):Prop:=
 ∀(w:AI) (S:List Nat) (σ :ag) (k no:Nat) (qq:ByteArray) (depth:Nat) (P:List Nat) (L:List En),p.At w S σ k->ah S0 w0 w->aj w0 S0 S->Tr.aD σ d no P L->(P++X).Nodup->(∀n∈X,σ n= σ0 n/\ σ n≠none)->(∀e∈L,Nd.lt e.cell.key qq=false)->Nd.lt key qq=false->Tr.Has iK key L->
  qq.size<=120->depth+d<=10->(p.F\/2*d<=k)->
  Calls prog 163 #[.iface p.T p.v,.int .i64 no,.string qq,.string key,.func (.func fc) #[] dx,.int .i64 depth] w (wW p S σ k d qq (P++X) (f L) w)
theorem AK{p:ay}(hp:cR p){fc:Nat}{dx:Array No}{w0:AI}{S0:List Nat}{σ0:ag}{X:List Nat}{f:List En->List En}{iK:Bool}(key:ByteArray)(hf:Tr.eJ key f)(yZ:pV p fc dx w0 S0 σ0 X iK key f):yv p fc dx w0 S0 σ0 X iK f key 0:=by
 intro w S σ k no qq depth P L h h0 h1 aX bI hX um eV oW Z5 oV hk;refine(Iw hp key hf yZ h h0 h1 no qq depth aX bI hX um eV oW Z5 (by omega)).mono ?_;rintro e w' ⟨r,ps,xs,P',σ',S',k',rfl,q1,q2,q3,q4⟩;refine⟨r,0,rfl,sh (.inl ⟨rfl,ps,xs,P',σ',S',k',q1,q2,q3.ma (fun n hn=> ?_),q4⟩)⟩;rw[q2.aa]at hn;obtain⟨x,hx,hn⟩:=abr.1 hn;obtain⟨-,g2,-,g4⟩:=(q2.each x hx).2.2;rw[g2]at hn;obtain⟨y,hy,hn⟩:=abr.1 hn;exact(g4 y hy).kind n hn
theorem o7{w:AI}{S:Nat->Prop}{b o n c:Nat}{ks:List Kd}(h:aW w S ⟨some ⟨b,o,none⟩,n,c⟩ (ks.map Kd.cell))(i:Nat)(hi:i<ks.length):w.cell? ⟨b,o+i*5,none⟩=some (.string ks[i].key)/\w.cell? ⟨b,o+i*5+4,none⟩=some (.int .i64 ks[i].no):=by
 obtain⟨b',o',hA,-,q0,-,-,-,q4⟩:=h.at i (by rw[IS];exact hi);simp only[acx,adP,and_true]at hA;obtain⟨rfl,rfl⟩:=hA;rw[List.getElem_map]at q0 q4;exact⟨q0,q4⟩
def yF (p:ay) (S:List Nat) (σ :ag) (k d:Nat) (X:List Nat) (F:List En) (ks:List Kd) (w:AI) (v19 v20 v21 v16:No) (wx:AI):Prop:=
 ∃(a b:Nat) (r:Rw) (ps:List Pt) (xs:List Tr.Pd) (L2:List En) (A M C:List Kd) (key:ByteArray) (σ4:ag) (S4:List Nat) (k4:Nat),v19= .slice r.A r.n r.c/\v20= .int .i64 a/\v21= .int .i64 b/\v16= .int .i64 0/\ks=A++M++C/\A.length=a/\a+M.length=b/\
  gF wx (Cl 0 S4) r ps/\Tr.Uv σ d A M C X F key σ4 ps xs L2/\p.At wx S4 σ4 k4/\k<=k4+2*d/\ah S w wx/\aj w S S4
def Joined (p:ay) (S:List Nat) (σ':ag) (k:Nat) (ps:List Pt) (w w':AI) (r:Rw):Prop:=∃S':List Nat,gF w' (Cl 0 S') r ps/\p.At w' S' σ' k/\ah S w w'/\aj w S S'
theorem Joined.off{p:ay}{S:List Nat}{σ':ag}{k:Nat}{ps:List Pt}{w w':AI}{r:Rw}(h:Joined p S σ' k ps w w' r):ah S w w':=by obtain⟨_,_,_,h,-⟩:=h;exact h
theorem l7{p:ay}{S:List Nat}{σ':ag}{k:Nat}{ps:List Pt}{w w':AI}{e:Ending}(h:gw p S σ' k ps w e w'):∃r:Rw,e= .returned (.tuple #[.slice r.A r.n r.c,.int .i64 0])/\Hid (Joined p S σ' k ps w w' r):=by
 obtain⟨S',r,rfl,h⟩:=h;exact⟨r,rfl,sh ⟨S',h⟩⟩
theorem ba.here{w:AI}{B g n c:Nat}{S:List Nat}{l:List Ce}(h:ba w B (.slice (some ⟨g,0,none⟩) n c) l)(hg:g∉S):aW w (Cl 0 S) ⟨some ⟨g,0,none⟩,n,c⟩ l:=by
 obtain⟨h1,h2,h3,h4⟩:=h.as;refine⟨h1,h2,h3,fun i d hd=> ?_⟩;obtain⟨b,o,x,q1,q2,q3⟩:=h4 i d hd;refine⟨b,o,x,q1,⟨⟨abi _,?_⟩,q2.2⟩,q3⟩;simp only[acx,adP,and_true]at q1;rw[<-q1.1];exact hg
theorem Fy{w:AI}{S:Nat->Prop}{jH b1 o1 n1 c1 b2 o2 n2 c2 b3 o3 n3 c3:Nat}{x y z:List Ce}(h:Bk w jH 174 #[.slice (some ⟨b1,o1,none⟩) n1 c1,.slice (some ⟨b2,o2,none⟩) n2 c2,.slice (some ⟨b3,o3,none⟩) n3 c3])(hS:S jH)
  (h1:aW w S ⟨some ⟨b1,o1,none⟩,n1,c1⟩ x) (h2:aW w S ⟨some ⟨b2,o2,none⟩,n2,c2⟩ y) (h3:aW w S ⟨some ⟨b3,o3,none⟩,n3,c3⟩ z) (l1:b1<w.heap.size) (l2:b2<w.heap.size) (l3:b3<w.heap.size):fZ 1 P9 w S ⟨some ⟨jH,0,none⟩,3,3⟩ [x,y,z]:=by
 refine⟨rfl,AS _,by unfold abj;show 3<=_;omega,fun i d hd=> ?_⟩;have eW:∀ {j:Nat} {u v:No},[v][j]? =some u->j=0/\v=u:=fun {j u v} hu=>by
  have hj:j=0:=by have:=(List.getElem?_eq_some_iff.1 hu).1;simp at this;omega
  subst hj;exact⟨rfl,by simpa using hu⟩
 match i with
 | 0=>
  obtain rfl:x=d:=by simpa using hd
  refine⟨jH,0,[.slice (some ⟨b1,o1,none⟩) n1 c1],rfl,⟨hS,h.lt⟩,rfl,fun j u hu=> ?_,some ⟨b1,o1,none⟩,n1,c1,rfl,h1⟩;obtain⟨rfl,rfl⟩:=eW hu;exact h.cell 0
 | 1=>
  obtain rfl:y=d:=by simpa using hd
  refine⟨jH,0,[.slice (some ⟨b2,o2,none⟩) n2 c2],rfl,⟨hS,h.lt⟩,rfl,fun j u hu=> ?_,some ⟨b2,o2,none⟩,n2,c2,rfl,h2⟩;obtain⟨rfl,rfl⟩:=eW hu;exact h.cell 1
 | 2=>
  obtain rfl:z=d:=by simpa using hd
  refine⟨jH,0,[.slice (some ⟨b3,o3,none⟩) n3 c3],rfl,⟨hS,h.lt⟩,rfl,fun j u hu=> ?_,some ⟨b3,o3,none⟩,n3,c3,rfl,h3⟩;obtain⟨rfl,rfl⟩:=eW hu;exact h.cell 2
 | i+3=>simp at hd
theorem aW.empty{w:AI}{S:Nat->Prop}(b o c:Nat)(hc:c<=abj):aW w S ⟨Option.some ⟨b,o,none⟩,0,c⟩ []:=⟨rfl,abi _,hc,fun i d hd=>by simp at hd⟩
def Lm (n:Nat) (sm:Bool) (w3:AI) (v:No) (w:AI):Prop:=∃b:Bool,v= .bool b/\(b=true->n=1/\sm=true)/\(b=false->n=2\/sm=false)/\IT w3.heap.size w3 w
theorem vT{p:ay}(hp:cR p){fc:Nat}{dx:Array No}{w0:AI}{S0:List Nat}{σ0:ag}{X:List Nat}{f:List En->List En}{iK:Bool}(key:ByteArray)(hf:Tr.eJ key f)(d:Nat)(ih:yv p fc dx w0 S0 σ0 X iK f key d):yv p fc dx w0 S0 σ0 X iK f key (d+1):=by
 intro w S σ k no qq depth P L h h0 h1 aX bI hX um eV oW Z5 oV hk;obtain⟨cs,P',rfl,g1,g2,g3,g4,g5,g6,g7⟩:=aX;have o5:=g4.right;have cZ:=Nd.ey false cs;have g7:=g7 rfl;obtain⟨ks,hB,rfl,rfl,rfl⟩:=Tr.Kids.mQ g4;rw[IS]at cZ g7;have De:ks.length<=100:=by have:Nd.sum false (ks.map Kd.cell)<=488:=g5;omega
 have vM:=sh (kE hp h no false _ o5.1 g5 g3);have vI: σ no≠none:=by rw[g3];simp
 obtain⟨fd,rv,-,hm,Ei,hd⟩:=hp.drop;have Ew:no∉ks.flatMap (·.P)++X:=(abJ.1 (by simpa using bI)).1;have Eu:(ks.flatMap (·.P)++X).Nodup:=(abJ.1 (by simpa using bI)).2;have jB:∀m∈ks.flatMap (·.P)++X,σ m≠none:=fun m hm=>by
  rcases By.1 hm with hm|hm
  ·exact(g4.mem m hm).2.2
  ·exact(hX m hm).2
 have zW:∀m∈ks.flatMap (·.P)++X,Tr.cY σ no none m= σ m:=fun m hm=>Tr.dM _ _ (fun e=>Ew (by rw[<-e];exact hm));have HA:=sh h;have gj:=sh (hp.old h);have z0:decide ((10:Int)<(depth:Int))=false:=decide_eq_false (by omega);have HD:=sh hd;have HB:=sh (hB.congr (σ':=Tr.cY σ no none) fun m hm=>zW m (By.2 (.inl hm)));have pK:=sh Eu;have YW:=sh (show ∀n∈X,Tr.cY σ no none n= σ0 n/\Tr.cY σ no none n≠none from fun n hn=>by
  rw[zW n (By.2 (.inr hn))];exact hX n hn)
 have Ak:=sh (show ∀ σ' P2,Tr.aE (Tr.lc (d+1)) (Tr.cY σ no none) (ks.flatMap (·.P)++X) σ' P2->Tr.aE (Tr.lc (d+1)) σ (no::ks.flatMap (·.P)++X) σ' P2 from fun σ' P2 hm=>Tr.aE.uQ hm jB vI Eu Ew);have HLW:=sh (show ∀e∈f (ks.flatMap (·.L)),Nd.lt e.cell.key qq=false from fun e he=>by
  rcases hf.mem _ e he with h9|h9
  ·exact um e h9
  ·rw[h9];exact eV)
 have HNN:=sh vI;have H0:=sh h0;have H1:=sh h1;have HK:=sh hk;have HSU:=sh (show Nd.sum false (ks.map Kd.cell)<=488 from g5);have T5:=sh oW;clear h hd cZ bI o5 g3 g4 g5 g6 zW jB vI hX um h0 h1 Eu Ew hB hk oW;go_enter func163,ntmps163
 go_wp2_with fail
 refine vM.out.mono ?_;rintro e w1 ⟨ar,A,c,rfl,aq⟩;obtain⟨g,rfl,Ky,ra,-,Bo,zQ⟩:=aq.full (by rw[IS];omega);rw[IS]at Bo aq;have cI:c<=9223372036854775807:=by unfold abj at zQ;omega
 have dG:=sh ar;have pW:=sh aq;have Ki:=sh (HD.out w1 S σ k no (hp.below HA.out ar) HNN.out);clear ar aq zQ;go_wp2_with fail
 refine Ki.out.mono ?_;rintro e w2 ⟨rfl,S2,gI,cP,fH⟩;have m7:=sh ((ah.af dG.out S).trans cP);have lu:=sh (fH.mono dG.out.size);have rV:=sh (((pW.out.apart (S:=S) gj.out).sub (T:=Cl 0 S) (fun b h _=>⟨abi _,h.2⟩)).carry cP fH);have sW:g∉S2:=fun hs=>by
  rcases fH g hs with h8|h8
  ·have:=gj.out g h8;omega
  ·omega
 have Vo:g<w2.heap.size:=aal ra cP.size;have tp:=sh gI;clear gI cP fH;have xI:IntKind.i64.wrap ((ks.length:Int)-1)=((ks.length-1:Nat):Int):=by rw[show (ks.length:Int)-1=((ks.length-1:Nat):Int)by omega];exact wrap_i64 _ (by omega)
 go_upto_block 1 with fail
 go_cut [18] from 57 to 69 (fun v wx=>∃j:Nat,v= .int .i64 j/\j<ks.length/\Hid ((∀m (h:m<ks.length),j<m->Nd.lt key ks[m].key=true)/\Nd.lt key (ks.getD j ⟨⟨#[]⟩,0,[],[]⟩).key=false)/\wx=w2)
 case first=>
  go_wp2_with fail
  go_loop [18] (fun i=>∃j:Nat,i= .int .i64 j/\j<ks.length/\Hid (∀m (h:m<ks.length),j<m->Nd.lt key ks[m].key=true)) (fun i=>(intOf i).toNat)
  case atStart=>exact⟨ks.length-1,rfl,by omega,sh (fun m h hm=>by omega)⟩
  case round=>
   obtain⟨j,rfl,hj,HJ⟩:=hrel;obtain⟨c0,c4⟩:=o7 rV.out j hj;rw[abR]at c0 c4;obtain⟨kj,zS⟩:∃x,x=ks[j]:=⟨_,rfl⟩;rw[<-zS]at c0 c4;have HKJ:=sh zS;have nw:(0<j/\decide ((0:Int)<(j:Int))=true/\Nd.lt key kj.key=true)\/(0<j/\decide ((0:Int)<(j:Int))=true/\Nd.lt key kj.key=false)\/j=0:=by
    by_cases e:j=0
    ·exact .inr (.inr e)
    ·cases hl:Nd.lt key kj.key
     ·exact .inr (.inl ⟨by omega,decide_eq_true (by omega),rfl⟩)
     ·exact .inl ⟨by omega,decide_eq_true (by omega),rfl⟩
   rcases nw with⟨w1',w2',XE⟩|nw
   ·have y1:acj kj.key.toList key.toList=false:=Nd.lt_asymm XE
    have y2:(kj.key.toList==key.toList)=false:=(Nd.B7 XE).2;have hwj:IntKind.i64.wrap ((j:Int)-1)=((j-1:Nat):Int):=by rw[show (j:Int)-1=((j-1:Nat):Int)by omega];exact wrap_i64 _ (by omega)
    have HJ2:=sh (show ∀m (h:m<ks.length),j-1<m->Nd.lt key ks[m].key=true from fun m h hm=>by
     by_cases e:m=j
     ·subst e;rw[<-HKJ.out];exact XE
     ·exact HJ.out m h (by omega))
    clear XE zS;go_wp2_with fail
    go_round
    case rel=>exact⟨j-1,by go_num,by omega,HJ2⟩
    case measure=>simp[intOf];omega
   ·have Kl:=sh (show Nd.lt key kj.key=false from by
     rcases nw with⟨-,-,h9⟩|h9
     ·exact h9
     ·subst h9
      obtain⟨k0,t0,e0,e1⟩:=HB.out.first;have:kj=k0:=by rw[HKJ.out];simp[e0]
      rw[this,e1];exact Tr.le_nil key)
    have abo:(0<j/\decide ((0:Int)<(j:Int))=true/\acj kj.key.toList key.toList=true)\/(0<j/\decide ((0:Int)<(j:Int))=true/\acj kj.key.toList key.toList=false/\(kj.key.toList==key.toList)=true)\/j=0:=by
     rcases nw with⟨h7,h8,h9⟩|h9
     ·rcases Nd.iJ kj.key key with h|h|h
      ·exact .inl ⟨h7,h8,h⟩
      ·exact .inr (.inl ⟨h7,h8,by rw[h];exact Nd.mc _,by rw[h];simp⟩)
      ·rw[h9]at h;cases h
     ·exact .inr (.inr h9)
    have HMJ:=sh zS;clear nw zS;have Hr:=sh (show (∀m (h:m<ks.length),j<m->Nd.lt key ks[m].key=true)/\Nd.lt key (ks.getD j ⟨⟨#[]⟩,0,[],[]⟩).key=false from ⟨HJ.out,by
     rw[show ks.getD j ⟨⟨#[]⟩,0,[],[]⟩=kj by rw[HKJ.out];simp[List.getD,aaG hj]];exact Kl.out⟩)
    rcases abo with⟨q1,q2,q3⟩|⟨q1,q2,q3,q4⟩|rfl;all_goals
     go_wp2_with fail
     go_meet
     exact⟨_,rfl,hj,Hr,rfl⟩
 case rest=>
  obtain⟨j,rfl,hj,HJ,hwc⟩:=hcut;obtain rfl:w2=wc:=hwc.symm;obtain⟨c0,c4⟩:=o7 rV.out j hj;rw[abR]at c0 c4;have M3:ks=ks.take j++[ks[j]]++ks.drop (j+1):=by
   rw[aaa,List.singleton_append,<-abM hj,List.take_append_drop]
  have Kz:ks.getD j ⟨⟨#[]⟩,0,[],[]⟩=ks[j]:=by simp[List.getD,aaG hj]
  rw[Kz]at HJ;have HC:=sh (show ∀c∈ks.drop (j+1),Nd.lt key c.key=true from fun c hc=>by
   obtain⟨m,hm,rfl⟩:=List.getElem_of_mem hc;rw[abQ]at hm;rw[List.getElem_drop];exact HJ.out.1 _ (by omega) (by omega))
  have hle:=HJ.out.2;obtain⟨kj,zS⟩:∃x,x=ks[j]:=⟨_,rfl⟩;rw[<-zS]at c0 c4 M3 hle;have hB:=HB.out;have jI:kj∈ks:=by rw[zS];exact List.getElem_mem hj
  obtain⟨⟨SU,-⟩,hstk⟩:=hB.each kj jI;have abe:∀n∈kj.P,n∈ks.flatMap (·.P):=fun n hn=>abr.2 ⟨kj,jI,hn⟩;have aaA:(kj.P++X).Nodup:=by
   have h9:=pK.out;rw[M3]at h9;simp only[List.flatMap_append,List.flatMap_cons,List.flatMap_nil,List.append_nil,aaa]at h9;have n1:=(aag.1 h9).2.1;obtain⟨a1,a2,a3⟩:=aag.1 n1;obtain⟨b1,b2,b3⟩:=aag.1 a2;exact aag.2 ⟨a1,b2,fun a ha b hb=>a3 a ha b (by simp[hb])⟩
  have Ta:∀e∈kj.L,Nd.lt e.cell.key kj.key=false:=hB.sep.2 kj.rg (List.mem_map_of_mem jI);have hih:=(ih w2.drew S2 (Tr.cY σ no none) k kj.no kj.key (depth+1) kj.P kj.L (hp.below tp.out (BY _ w2).drew) ((H0.out.then m7.out H1.out).drew) (H1.out.trans lu.out H0.out.size) hstk aaA YW.out Ta hle (T5.out.PC M3 hB HC.out hle) SU (by omega) (HK.out.imp id (fun _=>by omega)));rw[show ((depth+1:Nat):Int)=(depth:Int)+1 by omega]at hih;have HIH:=sh hih;clear hih;have HKJ:=sh zS;have F1:=sh M3;have Kl:=sh hle;have QS:kj.no<512:=by obtain⟨_,_,_,_,g,-⟩:=hstk;exact g
  clear M3 Kz hle hB jI SU hstk abe aaA Ta zS;have bD:=sh (show ∀W:AI,ah S2 w2 W->W.cell? ⟨g,j*5,none⟩=some (.string kj.key)/\W.cell? ⟨g,j*5+4,none⟩=some (.int .i64 kj.no) from fun W hb=>⟨(hb.cell (p:=⟨g,j*5,none⟩) Vo sW).trans c0,(hb.cell (p:=⟨g,j*5+4,none⟩) Vo sW).trans c4⟩);have OZ:=sh ((ah.refl S2 w2).drew);have hwd:IntKind.i64.wrap ((depth:Int)+1)=(depth:Int)+1:=acq _ (by omega);go_wp2_with fail
  go_region_held3 (fun W=>W.cell? ⟨g,j*5,none⟩=some (.string kj.key)/\W.cell? ⟨g,j*5+4,none⟩=some (.int .i64 kj.no)) (first|(with_reducible exact bD.out _ OZ.out)|(with_reducible exact bD.out _ (OZ.out.trans (ke.off nE.out)))) (first
   | (go_at_call 163;(with_reducible refine HIH.out.mono ?_);rintro e w3 ⟨r3,re,rfl,nE⟩))
  obtain⟨rA,rn,rc⟩:=r3;rcases nE.out with⟨rfl,ps,xs,P1,σ1,S3,k3,MQ,I8,qt,df,cO,eB,gU⟩|⟨hF,rfl,rfl,rfl,rfl,σ3,BK⟩
  ·have KV:=sh MQ
   have KW:=sh I8;have PT:=sh qt;have zZ:=sh df;have Am:=sh (OZ.out.trans eB);have Ag:=sh (gU.mono (w:=w2) (AS _));have xK:=I8;clear MQ I8 qt df eB gU nE;obtain⟨x0,t0,Dl,BQ⟩:=xK.head;have EF:ps.length=xs.length:=by rw[xK.WA,IS]
   obtain⟨bp,op,Za,Zr,qp,p0,p1,p2,vJ⟩:=KV.out.at 0 (by rw[EF,Dl];simp);simp only at Za;subst Za;have hp0:ps[0]'(by rw[EF,Dl];simp)=⟨kj.key,d==0,x0.cs⟩:=by
    have e:ps=xs.map (Tr.Pd.pt (d==0)):=xK.WA;simp only[e,Dl,List.map_cons,List.getElem_cons_zero,Tr.Pd.pt,BQ]
   rw[hp0]at p0 p1 vJ;simp only[Nat.zero_mul,Nat.add_zero]at p0 p1 p2 vJ;have Tu:rn=xs.length:=by have:=KV.out.1;simp only at this;rw[this,EF]
   have Q8:=KV.out.2.1;have Dg:=KV.out.2.2.1;simp only at Q8 Dg;have afH:rc<=9223372036854775807:=by unfold abj at Dg;omega
   have Rc:=xK.each x0 (by rw[Dl];simp);obtain⟨leaf,jX⟩:∃leaf,leaf=(d==0):=⟨_,rfl⟩;have Lc:=sh fun(W:AI) (hb:IT w3.heap.size w3 W)=>JR ⟨kj.key,d==0,x0.cs⟩ qp (Cl 0 S3) W (vJ.below hb) (by have:=Nd.ey (d==0) x0.cs;have:=Rc.2.1;show x0.cs.length<=10000;omega) Rc.2.2.right.2;simp only at Lc;rw[<-jX]at p1 Lc;obtain⟨qA,qn,qc⟩:=qp;simp only at p2 Lc;have ZE:=Zr.2;have HQP:=sh vJ;have HX0:=sh Dl;have HXK:=sh BQ;have Ua:=sh jX;have ake:=sh Rc;have adZ:=sh Zr;have iV:decide ((1:Int)<(ks.length:Int))=true:=decide_eq_true (by omega);have IU:(xs.length=1/\((xs.length:Int)==1)=true)\/(xs.length=2/\((xs.length:Int)==1)=false):=by
    rcases xK.count with h9|⟨h9,-⟩
    ·exact .inl ⟨h9,by rw[h9];rfl⟩
    ·exact .inr ⟨h9,by rw[h9];rfl⟩
   subst Tu;obtain⟨sm,oC⟩:∃sm,sm=decide (Nd.sum (d==0) x0.cs<122):=⟨_,rfl⟩;have YJ:=sh oC;rw[<-jX]at oC;rw[<-oC]at Lc;clear EF hp0 Dg Rc Zr vJ Dl BQ jX xK oC
   go_upto_region 19 with fail
   go_cut [108] (fun v wx=>Lm xs.length sm w3 v wx)
   case first=>
    rcases IU with⟨h8,h9⟩|⟨h8,h9⟩
    ·have H8:=sh h8
     have h80:0<xs.length:=by omega
     clear h8;cases sm
     all_goals
      go_wp2_with (first
       | (go_at_call 222;(with_reducible refine(Lc.out _ (BY _ _)).mono ?_);rintro e w4 ⟨rfl,bT⟩;have fU:=sh bT;clear bT)
       | fail)
      go_meet
      first|exact⟨true,rfl,fun _=>⟨H8.out,rfl⟩,fun h=>(Bool.noConfusion h),fU.out⟩|exact⟨false,rfl,fun h=>(Bool.noConfusion h),fun _=> .inr rfl,fU.out⟩
    ·have H8:=sh h8
     clear h8;go_wp2_with fail
     go_meet
     exact⟨false,rfl,fun h=>(Bool.noConfusion h),fun _=> .inl H8.out,BY _ _⟩
   case rest=>
    obtain⟨b,rfl,ar,aC,bT⟩:=hcut;have fU:=sh bT;have bh:=sh ar;have bm:=sh aC;clear ar aC bT
    go_upto_if 108 with fail
    go_cut [19,20,21,16] (fun v19 v20 v21 v16 wx=>yF p S2 (Tr.cY σ no none) k d X (f (ks.flatMap (·.L))) ks w2 v19 v20 v21 v16 wx)
    case first=>
     cases b with
     | false=>
      have hg:∀x∈xs,Tr.Good (d==0) x.cs x.L/\Tr.Hp d x.L:=by
       rcases bm.out rfl with h9|h9
       ·rcases KW.out.count with h8|⟨-,h8⟩
        ·omega
        ·exact h8
       ·rcases KW.out.count with h8|⟨-,h8⟩
        ·obtain⟨x,e,-,-,-,-,-,MT⟩:=KW.out.one h8
         have e2:x0=x:=by have:=HX0.out;rw[e]at this;simp at this;exact this.1.symm
         subst e2;have nu:¬ Nd.sum (d==0) x0.cs<122:=of_decide_eq_false (YJ.out.symm.trans h9);rw[e];intro y hy;obtain rfl:=List.mem_singleton.1 hy;exact⟨MT.QB (by omega),MT.fat (by omega)⟩
        ·exact h8
      have L6:=HB.out;rw[F1.out]at L6;have Ai:=sh (Tr.Rr hf L6 HC.out Kl.out KW.out PT.out hg);rw[<-F1.out]at Ai;have Le:=sh (show yF p S2 (Tr.cY σ no none) k d X (f (ks.flatMap (·.L))) ks w2 (.slice (some ⟨bp,op,none⟩) xs.length rc) (.int .i64 j) (.int .i64 ((j:Int)+1)) (.int .i64 0) wc from
       ⟨j,j+1,⟨some ⟨bp,op,none⟩,xs.length,rc⟩,ps,xs,_,_,_,_,_,σ1,S3,k3,rfl,rfl,by go_num,rfl,F1.out,by rw[abx];omega,rfl,KV.out.below fU.out,Ai.out,hp.below zZ.out fU.out,cO,Am.out.trans (ah.af fU.out S2),Ag.out⟩)
      clear hg L6;go_wp2_with fail
      go_meet
      exact Le.out
     | true=>
      obtain⟨eW,oC⟩:=bh.out rfl;obtain⟨x,e,-,US,hL1,-,-,MT⟩:=KW.out.one eW;have e2:x0=x:=by have:=HX0.out;rw[e]at this;simp at this;exact this.1.symm
      subst e2;have nu:Nd.sum (d==0) x0.cs<122:=of_decide_eq_true (YJ.out.symm.trans oC);have XB:(d==0)=false->0<x0.cs.length:=by
       intro qZ;cases d with
       | zero=>cases qZ
       | succ d=>
        obtain⟨ks9,zR,h1,-⟩:=Tr.Kids.mQ MT;obtain⟨a,t,h2,-⟩:=zR.first;rw[h1,h2];simp
      have M7:x0.cs.length<=1000:=by have:=Nd.ey (d==0) x0.cs;omega
      have VE:=PT.out;rw[US]at VE;rw[<-hL1]at MT;have HPX:=sh MT;have Yg:=sh VE;have XH:=sh (hp.below zZ.out fU.out);have PZ:=sh ((rV.out.carry Am.out Ag.out).below fU.out);have O2:=sh (HQP.out.below fU.out);have u0:=(fU.out.cell (p:=⟨bp,op,none⟩) ZE).trans p0;have u1:=(fU.out.cell (p:=⟨bp,op+1,none⟩) ZE).trans p1;have u2:=(fU.out.cell (p:=⟨bp,op+2,none⟩) ZE).trans p2;have U7:bp<wc.heap.size:=aal ZE fU.out.size;have U8:bp∉S3:=adZ.out.1.2;have PQ:=sh (show ∀W:AI,ah S3 wc W->W.cell? ⟨bp,op,none⟩=some (.string kj.key)/\W.cell? ⟨bp,op+1,none⟩=some (.bool leaf)/\W.cell? ⟨bp,op+2,none⟩=some (.slice qA qn qc) from fun W hb=>⟨(hb.cell (p:=⟨bp,op,none⟩) U7 U8).trans u0,(hb.cell (p:=⟨bp,op+1,none⟩) U7 U8).trans u1,(hb.cell (p:=⟨bp,op+2,none⟩) U7 U8).trans u2⟩);have tB:=sh ((ah.refl S3 wc).drew);have akD:0<xs.length:=by omega
      clear eW oC e US hL1 MT VE p0 p1 p2;have hjj:j=0\/∃m,j=m+1:=by
       cases j with
       | zero=>exact .inl rfl
       | succ m=>exact .inr ⟨m,rfl⟩
      rcases hjj with rfl|⟨m,rfl⟩
      ·obtain⟨k1,dy⟩:∃y,y=ks[1]:=⟨_,rfl⟩
       have uE:ks=[]++[kj,k1]++ks.drop 2:=by
        have h1:=F1.out;rw[List.take_zero,acI,abM (show 0+1<ks.length by omega)]at h1;rw[acI,dy];exact h1
       have L6:=HB.out;have L8:=pK.out;rw[uE]at L6 L8;obtain⟨kX,g1,g8,g3,g9,⟨xs2,sq⟩,dL,dN⟩:=Tr.Jp hf L6 L8 (fun c hc=>HC.out c (by
        rw[abM (show 0+1<ks.length by omega)];rcases OF.1 hc with rfl|hc
        ·exact OF.2 (.inl dy)
        ·exact OF.2 (.inr hc))) Kl.out Yg.out HPX.out nu XB
       rw[<-uE]at sq;have rz:aW wc (Cl 0 S3) ⟨some ⟨g,0,none⟩,2,c⟩ [kj.cell,k1.cell]:=by
        have h9:=PZ.out.take 2 (by rw[IS];omega);have e9:(ks.map Kd.cell).take 2=[kj.cell,k1.cell]:=by
         rw[uE];rfl
        rw[e9]at h9;exact h9
       have Bj:Calls prog 223 #[.iface p.T p.v,.slice (some ⟨g,0,none⟩) 2 c,.int .i64 0,.agg #[.string kj.key,.bool leaf,.slice qA qn qc]] wc.drew (gw p S3 (Tr.cY σ1 k1.no none) k3 (Tr.ck kj.key leaf (x0.cs++Nd.first leaf k1.key kX)) wc.drew):=by
        rw[<-Ua.out]at g1 g8 g3 dL dN;exact ES hp (w:=wc.drew) (hp.below XH.out (BY _ wc).drew) leaf kj.cell k1.cell _ c (rz.below (BY _ wc).drew) kj.key ⟨qA,qn,qc⟩ x0.cs kX (O2.out.below (BY _ wc).drew) g1 g8 g3 g9 M7 dN dL
       have Ad:=sh (Bj.mono fun e w' h=>l7 h);have Ai:=sh sq;have Up:=sh uE;clear Bj sq uE L6 L8 g1 g8 g3 g9 dL dN rz dy;have hw0:IntKind.i64.wrap 0=0:=acq _ (by omega);have ar:(2:Int)<=(c:Int):=by omega
       have aC:2<=c:=by omega
       have om:(if (ks.length:Int)<2 then (ks.length:Int)else 2)=2:=by rw[if_neg (by omega)]
       go_wp2_with fail
       go_region_held3 (fun W=>W.cell? ⟨bp,op,none⟩=some (.string kj.key)/\W.cell? ⟨bp,op+1,none⟩=some (.bool leaf)/\W.cell? ⟨bp,op+2,none⟩=some (.slice qA qn qc)) (first|(with_reducible exact PQ.out _ tB.out)|(with_reducible exact PQ.out _ (tB.out.trans (Joined.off Vw.out)))) (first
        | (go_at_call 223;(with_reducible refine Ad.out.mono ?_);rintro e w5 ⟨r5,rfl,Vw⟩))
       all_goals
        have hj6:=Vw.out;rw[Ua.out]at hj6;obtain⟨S5,MS,IM,iD,wb⟩:=hj6;have Bx:ah S2 w2 w5:=(Am.out.trans (ah.af fU.out S2)).then ((ah.af (BY _ wc).drew S3).trans iD) Ag.out;have we:aj w2 S2 S5:=Ag.out.trans (wb.mono (w:=w3) fU.out.size) Am.out.size;have Le:=sh (show yF p S2 (Tr.cY σ no none) k d X (f (ks.flatMap (·.L))) ks w2 (.slice r5.A r5.n r5.c) (.int .i64 0) (.int .i64 2) (.int .i64 0) w5 from
         ⟨0,2,r5,_,xs2,_,[],[kj,k1],ks.drop 2,kj.key,_,S5,k3,rfl,rfl,rfl,rfl,Up.out,rfl,rfl,MS,Ai.out,IM,cO,Bx,we⟩)
        clear Vw MS IM iD wb Bx we;go_wp2_with fail
        go_meet
        exact Le.out
      ·obtain⟨k0,mL⟩:∃y,y=ks[m]:=⟨_,rfl⟩
       have uE:ks=ks.take m++[k0,kj]++ks.drop (m+2):=by
        have h1:=F1.out;rw[List.take_succ_eq_append_getElem (show m<ks.length by omega),<-mL]at h1;simpa using h1
       have L6:=HB.out;have L8:=pK.out;rw[uE]at L6 L8;obtain⟨kX,g1,g8,g3,g9,⟨xs2,sq⟩,dL,dN⟩:=Tr.Jq hf L6 L8 HC.out Kl.out Yg.out HPX.out nu XB;rw[<-uE]at sq;have rz:aW wc (Cl 0 S3) ⟨some ⟨g,m*5,none⟩,2,c-m⟩ [k0.cell,kj.cell]:=by
        have h9:=(PZ.out.drop m (by rw[IS];omega)).take 2 (by rw[abQ,IS];omega);have e9:((ks.map Kd.cell).drop m).take 2=[k0.cell,kj.cell]:=by
         rw[uE,aaa,abI,List.drop_left' (by rw[IS,abx];omega)];rfl
        rw[e9,abR]at h9;exact h9
       have Bj:Calls prog 223 #[.iface p.T p.v,.slice (some ⟨g,m*5,none⟩) 2 (c-m),.int .i64 1,.agg #[.string kj.key,.bool leaf,.slice qA qn qc]] wc.drew (gw p S3 (Tr.cY σ1 k0.no none) k3 (Tr.ck k0.key leaf (kX++Nd.first leaf kj.key x0.cs)) wc.drew):=by
        rw[<-Ua.out]at g1 g8 g3 dL dN;exact ET hp (w:=wc.drew) (hp.below XH.out (BY _ wc).drew) leaf k0.cell kj.cell _ (c-m) (rz.below (BY _ wc).drew) kj.key ⟨qA,qn,qc⟩ kX x0.cs (O2.out.below (BY _ wc).drew) g1 g8 g3 (fun hl=>XB (by rw[<-Ua.out];exact hl)) g9 M7 dN dL
       have Ad:=sh (Bj.mono fun e w' h=>l7 h);have Ai:=sh sq;have Up:=sh uE;clear Bj sq uE L6 L8 g1 g8 g3 g9 dL dN rz mL;have ha1:((m+1:Nat):Int)-1=(m:Int):=by omega
       have ha2:(m:Int)+1-1=(m:Int):=by omega
       have oe:(if (0:Int)<(m:Int)then (m:Int)else 0)=(m:Int):=by split<;>omega
       have om:(if (ks.length:Int)<2 then (ks.length:Int)else 2)=2:=by rw[if_neg (by omega)]
       have ak3:(if 0<m then (m:Int)else 0)=(m:Int):=by split<;>omega
       have hmx:(if (m:Int)+1+1<2 then 2 else (m:Int)+1+1)=(m:Int)+1+1:=by split<;>omega
       have ak5:(m:Int)+1+1<=(c:Int):=by omega
       have ak6:m+1+1<=c:=by omega
       have ak7:(m:Int)<=(m:Int)+1+1:=by omega
       have ak8:(0:Int)<=(m:Int)+1+1:=by omega
       have kV:m<=m+1+1:=by omega
       have QV:¬ (c=m):=by omega
       have Px:((m:Int)+1+1).toNat=m+1+1:=by omega
       have zP:(m:Int)+1-(m:Int)=1:=by omega
       have EK:IntKind.i64.wrap 1=1:=acq _ (by omega);have mK:m+1+1-m=2:=by omega
       go_wp2_with fail
       go_region_held3 (fun W=>W.cell? ⟨bp,op,none⟩=some (.string kj.key)/\W.cell? ⟨bp,op+1,none⟩=some (.bool leaf)/\W.cell? ⟨bp,op+2,none⟩=some (.slice qA qn qc)) (first|(with_reducible exact PQ.out _ tB.out)|(with_reducible exact PQ.out _ (tB.out.trans (Joined.off Vw.out)))) (first
        | (go_at_call 223;(with_reducible refine Ad.out.mono ?_);rintro e w5 ⟨r5,rfl,Vw⟩))
       all_goals
        have hj6:=Vw.out;rw[Ua.out]at hj6;obtain⟨S5,MS,IM,iD,wb⟩:=hj6;have Bx:ah S2 w2 w5:=(Am.out.trans (ah.af fU.out S2)).then ((ah.af (BY _ wc).drew S3).trans iD) Ag.out;have we:aj w2 S2 S5:=Ag.out.trans (wb.mono (w:=w3) fU.out.size) Am.out.size;have Le:=sh (show yF p S2 (Tr.cY σ no none) k d X (f (ks.flatMap (·.L))) ks w2 (.slice r5.A r5.n r5.c) (.int .i64 m) (.int .i64 ((m:Int)+1+1)) (.int .i64 0) w5 from
         ⟨m,m+2,r5,_,xs2,_,ks.take m,[k0,kj],ks.drop (m+2),k0.key,_,S5,k3,rfl,rfl,by go_num,rfl,Up.out,by rw[abx];omega,rfl,MS,Ai.out,IM,cO,Bx,we⟩)
        clear Vw MS IM iD wb Bx we;go_wp2_with fail
        go_meet
        exact Le.out
    case rest=>
     obtain⟨a,b9,r,ps9,xs9,L2,AA,MM,CC,amX,σ4,S4,k4,rfl,rfl,rfl,rfl,ia,hA,hM,o5,sq,cG,dO,bB,bU⟩:=hcut;obtain⟨P2,oZ,kV⟩:=sq.parts;have L8:=kV.nodup;rw[oZ.aa]at L8;have dN:∀x∈xs9,Tr.Part σ4 d x.cs x.P x.L/\Nd.sum (d==0) x.cs<=488/\Tr.Good (d==0) x.cs x.L:=fun x hx=>⟨(oZ.each x hx).2.2,(oZ.each x hx).2.1,(sq.QB x hx).1⟩;have M7:xs9.length<=2:=by rcases oZ.count with h|h<;>omega
     have amq:0<xs9.length:=by rcases oZ.count with h|h<;>omega
     have VX:=o5;rw[oZ.WA]at VX;have W0:=sh (uO hp cG L8 dN VX (abi _) (HK.out.imp id (fun _=>by omega)) (by omega));have Ai:=sh sq;have PR:=sh ia;have hAl:a<=ks.length:=by rw[ia,AT,AT];omega
     have fV:b9<=ks.length:=by rw[ia,AT,AT];omega
     have OR:=sh hA;have HML:=sh hM;have PV:=sh bB;have PN:=sh bU;have adU:=sh (rV.out.carry bB bU);have hgW:g<wc.heap.size:=aal Vo bB.size;have alZ:=sh (hp.old cG);have ai4:=sh cG;have PO:=sh (show k<=(k4-xs9.length)+2*(d+1)by omega);clear sq ia hA hM bB bU cG dO o5 VX dN L8 kV oZ;go_wp2_with fail
     refine W0.out.mono ?_;rintro e w6 (⟨A',c',kS,σ',rfl,cQ,su,BL,Bu,S6,ku,iW,jA,Ex⟩|⟨hF,rfl,σ',S6,ku,iW,jA⟩)
     ·have Ep:0<kS.length/\kS.length<=2:=by
       have:=congrArg List.length su;rw[IS,IS]at this;omega
      obtain⟨Ep,aib⟩:=Ep;obtain⟨g6,rfl,Z8,Z9,-,Vp,Em⟩:=cQ.full (by rw[IS];omega);obtain⟨cJ,VF,TC⟩:=Ai.out.made (by rw[<-PR.out];exact HB.out) (by rw[<-PR.out];exact pK.out) su BL Bu;rw[<-PR.out]at VF TC;have s6:Nd.sum false ((AA++kS++CC).map Kd.cell)<=750:=by have:=HSU.out;omega
      have eX:=cJ.right.2;obtain⟨xsF,EC⟩:=cJ.parts qq HLW.out Z5 s6;have Vc:(ks.map Kd.cell).take a++(kS.map Kd.cell++(ks.map Kd.cell).drop b9)=(AA++kS++CC).map Kd.cell:=by
       rw[PR.out,<-OR.out];simp only[abI,aaa];rw[List.take_left' (by simp),List.drop_append,acE (by simp;have:=HML.out;have:=OR.out;omega),List.drop_append,acE (by simp;have:=HML.out;have:=OR.out;omega),acI,acI,show b9-(AA.map Kd.cell).length-(MM.map Kd.cell).length=0 by simp;have:=HML.out;have:=OR.out;omega,List.drop_zero]
      have V8:=adU.out.carry iW jA;have afP:∃o3,(if c=b9 then (some ⟨g,0,none⟩:Option Addr)else some ⟨g,b9*5,none⟩)=some ⟨g,o3,none⟩/\aW w6 (Cl 0 S6) ⟨some ⟨g,o3,none⟩,ks.length-b9,c-b9⟩ ((ks.map Kd.cell).drop b9):=by
       by_cases zO:c=b9
       ·refine⟨0,by rw[if_pos zO],?_⟩
        have e1:(ks.map Kd.cell).drop b9=[]:=acE (by rw[IS];omega);have e2:ks.length-b9=0:=by omega
        rw[e1,e2];exact aW.empty _ _ _ (by unfold abj;omega)
       ·refine⟨b9*5,by rw[if_neg zO],?_⟩
        have h9:=V8.drop b9 (by rw[IS];omega)
        rwa [abR]at h9
      obtain⟨o3,GG,Ty⟩:=afP;have Tw:=V8.take a (by rw[IS];omega);have uC:=cQ.here (Ex g6 rfl);obtain⟨fl,uj⟩:∃fl,fl=(AA++kS++CC).map Kd.cell:=⟨_,rfl⟩;rw[<-uj]at Vc eX s6 EC;have alv:g<w6.heap.size:=aal hgW iW.size;have Q0:=hp.old ku;have ae2:0<fl.length:=by rw[uj];simp;omega
      have alp:fl.length<=200:=by have:=Nd.ey false fl;omega
      have gJ:=sh (show IT w6.heap.size w6 (w6.alloc (.cells #[.slice (some ⟨g,0,none⟩) a c,.slice (some ⟨g6,0,none⟩) kS.length c',.slice (some ⟨g,o3,none⟩) (ks.length-b9) (c-b9)] 174)).drew from ((BY _ _).alloc (AS _) _).drew);have Bj:Calls prog 224 #[.slice (some ⟨w6.heap.size,0,none⟩) 3 3] (w6.alloc (.cells #[.slice (some ⟨g,0,none⟩) a c,.slice (some ⟨g6,0,none⟩) kS.length c',.slice (some ⟨g,o3,none⟩) (ks.length-b9) (c-b9)] 174)).drew (iB fl (w6.alloc (.cells #[.slice (some ⟨g,0,none⟩) a c,.slice (some ⟨g6,0,none⟩) kS.length c',.slice (some ⟨g,o3,none⟩) (ks.length-b9) (c-b9)] 174)).drew):=by
       have hk:=(Bk.new w6 174 #[.slice (some ⟨g,0,none⟩) a c,.slice (some ⟨g6,0,none⟩) kS.length c',.slice (some ⟨g,o3,none⟩) (ks.length-b9) (c-b9)]).drew;have hz:=ko ⟨some ⟨w6.heap.size,0,none⟩,3,3⟩ [(ks.map Kd.cell).take a,kS.map Kd.cell,(ks.map Kd.cell).drop b9] (Cl 0 S6) _ (Fy hk ⟨abi _,fun hh=>by have:=Q0 _ hh;omega⟩ (Tw.below gJ.out) (uC.below gJ.out) (Ty.below gJ.out) (by simp;omega) (by simp;omega) (by simp;omega));have e9:[(ks.map Kd.cell).take a,kS.map Kd.cell,(ks.map Kd.cell).drop b9].flatten=fl:=by rw[<-Vc];simp
       rw[e9]at hz;exact hz ae2 (by omega) (by simp)
      have Ad:=sh Bj;have lj:=sh (show IT w6.heap.size w6 w6.drew from (BY _ _).drew);have An:=sh fun(W:AI) (A:Option Addr) (c:Nat) (B:Nat) (aq:ba W B (.slice A fl.length c) fl) (hB:w6.heap.size<=B) (hb:IT w6.heap.size w6 W)=>(show Calls prog 162 #[.string qq,.bool false,.slice A fl.length c] W (mz 0 S6 (Tr.ck qq false fl) W) from
       iz qq false ⟨A,fl.length,c⟩ fl 0 S6 W (aq.as.sub (fun b h1 _=>⟨abi _,fun hh=>by have:=Q0 b hh;omega⟩)) (fun b hh=>aal (Q0 b hh) hb.size) (abi _) eX s6)
      have bX:=sh (show ∀(r:Rw) (w8:AI),IT w6.heap.size w6 w8->gF w8 (Cl 0 S6) r (Tr.ck qq false fl)->ke p S σ k (d+1) qq (no::ks.flatMap (·.P)++X) (f (ks.flatMap (·.L))) w w8 r 0 from fun r w8 ng Q4=>
       .inl ⟨rfl,_,xsF,_,σ',S6,_,Q4,EC,Ak.out σ' _ VF,hp.below ku ng,PO.out,m7.out.then ((PV.out.then iW PN.out).trans (ah.af ng S2)) lu.out,lu.out.trans (PN.out.trans jA PV.out.size) m7.out.size⟩)
      have ak9:(b9:Int)<=(ks.length:Int):=by omega
      have ala:(a:Int)<=(c:Int):=by omega
      have alb:a<=c:=by omega
      have aeR:c'<=9223372036854775807:=by unfold abj at Em;omega
      clear Bj V8 Tw uC Ty cQ Ex ku iW jA EC cJ VF TC s6 eX Vc uj Q0 su BL Bu Em;go_wp2_with fail
      go_region_held3 (fun W=>IT w6.heap.size w6 W) (first|(with_reducible exact lj.out)|(with_reducible exact gJ.out)|(with_reducible exact U2)|(with_reducible exact jW)) (first
       | (go_at_call 224;(with_reducible refine Ad.out.mono ?_);rintro e w7 ⟨sS,A7,c7,rfl,BA⟩;have jW:=gJ.out.trans (sS.mono gJ.out.size))
       | (go_at_call 162;(with_reducible refine(An.out _ _ _ _ BA gJ.out.size jW).mono ?_);rintro e w8 ⟨ng,r8,rfl,Q4⟩;have U2:=jW.trans (ng.mono jW.size)))
      all_goals
       have HE:=sh (bX.out r8 w8 U2 Q4);clear sS BA jW ng Q4 U2;go_wp2_with fail
       go_ret2
       exact⟨r8,0,rfl,HE⟩
     ·have bX:=sh (show ke p S σ k (d+1) qq (no::ks.flatMap (·.P)++X) (f (ks.flatMap (·.L))) w w6 ⟨none,0,0⟩ 9 from
       .inr ⟨hF,rfl,rfl,rfl,rfl,σ',S6,ku,m7.out.then (PV.out.then iW PN.out) lu.out,lu.out.trans (PN.out.trans jA PV.out.size) m7.out.size⟩)
      clear ku iW jA;go_wp2_with fail
      go_ret2
      exact⟨⟨none,0,0⟩,9,rfl,bX⟩
  ·have bX:=sh (show ke p S σ k (d+1) qq (no::ks.flatMap (·.P)++X) (f (ks.flatMap (·.L))) w w3 ⟨none,0,0⟩ 9 from
    .inr ⟨hF,rfl,rfl,rfl,rfl,σ3,by
     obtain⟨S3,h1,h2,h3⟩:=BK;exact⟨S3,h1,m7.out.then (OZ.out.trans h2) lu.out,lu.out.trans (h3.mono (w:=w2) (AS _)) m7.out.size⟩⟩)
   clear BK nE;go_wp2_with fail
   go_ret2
   exact⟨⟨none,0,0⟩,9,rfl,bX⟩
end Go.Proofs.YtjbcbnemdhbhbaaGreatDoor
