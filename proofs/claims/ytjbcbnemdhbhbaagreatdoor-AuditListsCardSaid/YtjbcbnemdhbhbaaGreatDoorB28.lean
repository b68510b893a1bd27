import Derived.Test.YtjbcbnemdhbhbaaGreatDoorB50
import Derived.Test.YtjbcbnemdhbhbaaGreatDoorB10
set_option maxRecDepth 100000
set_option linter.unusedVariables false
set_option linter.unusedSimpArgs false
set_option maxHeartbeats 40000000
open Go renaming Value→IS,World→AI
open Go.ByteArray renaming toList_eq→abY
open Go.Lib renaming hid→sh
open Go.RowKit renaming Below→No
open Go.RowKit.Below renaming refl→IN
open Go.World renaming ownsRow_nil→acv
open List renaming getElem?_append_left→acr,getElem?_append_right→abX,getElem?_eq_getElem→aaG,getElem?_eq_some_iff→abA,getElem?_map→acz,length_append→BY,length_cons→abB,length_map→aae,mem_append→AT,mem_cons→IT,mem_cons_self→acs,mem_of_getElem?→aey,mem_singleton→By
open Nat renaming le_refl→AS,lt_of_lt_of_le→aaf
open Option renaming some→aeu
namespace Go.Proofs.YtjbcbnemdhbhbaaGreatDoor
open Go.Proofs.Tryz
open Go.RowKit
def xS (p:aA) (S:List Nat) (σ :ag) (k:Nat) (key val:ByteArray) (w w':AI) (c:Ce) (x:Int):Prop:=
 (x=0/\∃(e:En) (σ':ag),e.cell=c/\c.key=key/\e.val=val.data.toList/\e.aa.length=Tr.pieces val.size/\Tr.ft σ' e/\Tr.Moved σ [] σ' e.aa/\Step p S w w' σ' (k-Tr.pieces val.size))\/(x=9/\p.F/\∃ σ',Step p S w w' σ' 0)
theorem xS.off{p:aA}{S:List Nat}{σ :ag}{k:Nat}{key val:ByteArray}{w w':AI}{c:Ce}{x:Int}(h:xS p S σ k key val w w' c x):ah S w w':=by
 rcases h with⟨-,e,σ',-,-,-,-,-,-,S',-,h,-⟩|⟨-,-,σ',S',-,h,-⟩
 ·exact h
 ·exact h
theorem Mu{p:aA}(hp:dc p){w:AI}{S:List Nat}{σ :ag}{k:Nat}(h:p.At w S σ k)(key val:ByteArray)(dw:1<=key.size)(bO:key.size<=120)(hv:val.size<=4000)(hk:p.F\/Tr.pieces val.size<=k):
  Calls prog 103 #[.iface p.T p.v,.string key,.string val] w (fun e w'=>∃(c:Ce) (x:Int),e= .returned (.tuple #[.agg #[.string c.key,.string c.val,.int .i64 c.over,.int .i64 c.size,.int .i64 c.child],.int .i64 x])/\Hid (xS p S σ k key val w w' c x)):=by
 by_cases h96:val.size<=96
 ·have hz:Tr.pieces val.size=0:=by unfold Tr.pieces;rw[if_pos h96]
  refine(Ec p key val w h96).mono ?_;rintro e w' ⟨rfl,hb⟩;refine⟨⟨key,val,0,0,0⟩,0,rfl,sh (.inl ⟨rfl,⟨⟨key,val,0,0,0⟩,[],val.data.toList⟩,σ,rfl,rfl,rfl,by rw[hz];rfl,⟨?_,.inl ⟨rfl,rfl,rfl⟩⟩,Tr.Moved.refl (by simp) (by simp),S,hp.less (hp.below h hb) (by omega),ah.ae hb S,aj.refl _ _⟩)⟩;simp[Nd.aY];omega
 ·have hz:Tr.pieces val.size=(val.size-1)/484+1:=by unfold Tr.pieces;rw[if_neg h96]
  refine(IK hp h key val (by omega) hv (by rw[<-hz];exact hk)).mono ?_;rintro e w' (⟨n,rfl,ns,σ',n0,n1,n2,n3,bm⟩|⟨hF,rfl,σ',bm⟩)
  ·have tD:=n2.te
   refine⟨⟨key,⟨#[]⟩,n,val.size,0⟩,0,rfl,sh (.inl ⟨rfl,⟨⟨key,⟨#[]⟩,n,val.size,0⟩,ns,val.data.toList⟩,σ',rfl,rfl,rfl,by rw[hz];exact n1,⟨?_,.inr ⟨n0,n2,rfl⟩⟩,n3,by rw[hz];exact bm⟩)⟩;have e1:(⟨#[]⟩:ByteArray).size=0:=rfl;simp[Nd.aY,n0,e1];omega
  ·exact⟨Ce.zero,9,rfl,sh (.inr ⟨rfl,hF,σ',bm⟩)⟩
def oy (p:aA) (S:List Nat) (σ :ag) (k c:Nat) (P:List Nat) (L:List En) (key val:ByteArray) (w:AI) (e:Ending) (w':AI):Prop:=
 ∃x:En,x.cell.key=key/\x.val=val.data.toList/\x.aa.length=Tr.pieces val.size/\kc p S σ k (c+Tr.pieces val.size) P (Tr.dL key x L) w e w'
theorem GF{p:aA}(hp:dc p){w:AI}{S:List Nat}{σ :ag}{k:Nat}(h:p.At w S σ k)(root:Nat){P:List Nat}{L:List En}{c0:Nat}(uZ:Tr.fa σ c0 root P L)(cg:P.Nodup)(key val:ByteArray)(dw:1<=key.size)(bO:key.size<=120)(hv:val.size<=4000)(hk:p.F\/c0+Tr.pieces val.size<=k):
  Calls prog 48 #[.iface p.T p.v,.int .i64 root,.string key,.string val] w (oy p S σ k c0 P L key val w):=by
 have bL:(key.toList==[])=false:=by
  have:key.toList.length=key.size:=by rw[abY];rfl
  cases hl:key.toList with
  | nil=>rw[hl]at this;simp at this;omega
  | cons a t=>rfl
 have VD:(key.toList==(⟨#[]⟩:ByteArray).toList)=false:=by
  have:(⟨#[]⟩:ByteArray).toList=[]:=by rw[abY]
  rw[this];exact bL
 have z1:decide ((120:Int)<(key.size:Int))=false:=decide_eq_false (by omega);have z2:decide (120<key.size)=false:=decide_eq_false (by omega);have z3:decide ((4000:Int)<(val.size:Int))=false:=decide_eq_false (by omega);have z4:decide (4000<val.size)=false:=decide_eq_false (by omega);have HH:=sh (Mu hp (w:=(w.alloc (.cells #[.iface p.T p.v] 168)).alloc (.cells #[.string key] 9)) (hp.off h (((ah.refl [] w).alloc _).alloc _) (by simp)) key val dw bO hv (hk.imp id (fun _=>by omega)));have HA:=sh h;have J9:=sh uZ;have fZ:=sh (hp.old h);have si:=sh cg;have HK:=sh hk;clear h uZ cg hk;go_enter func48,ntmps48
 go_wp2_with fail
 refine HH.out.mono ?_;rintro e w1 ⟨c,x,rfl,Gn⟩;have Yt:=sh (show ah S w w1 from (((ah.refl S w).alloc _).alloc _).trans Gn.off);have OJ:=sh (show Bk w1 (w.heap.size+1) 9 #[.string key] from Gn.off.bk (by have h:=Bk.new (w.alloc (.cells #[.iface p.T p.v] 168)) 9 #[.string key];simpa using h) (fun hs=>by have:=fZ.out _ hs;omega));have OM:=sh (show Bk w1 w.heap.size 168 #[.iface p.T p.v] from Gn.off.bk ((Bk.new w _ _).alloc _) (fun hs=>by have:=fZ.out _ hs;omega));have pK:w.heap.size+2<=w1.heap.size:=by have:=Gn.off.size;simp at this;omega
 have l0:w.heap.size<w1.heap.size:=by omega
 have l1:w.heap.size+1<w1.heap.size:=by omega
 have k0:=OJ.out.cell 0;have p0:=OM.out.cell 0;rcases Gn.out with⟨rfl,y,σ1,rfl,QZ,hyv,hyl,fi,jE,S1,It,vu,nO⟩|⟨rfl,hF,σ1,S1,It,vu,nO⟩
 ·have HB:=sh ((jE.lY (fun n hn=>fi.kind n hn)).frame (R:=P) (fun n hn=>by rcases J9.out with⟨rfl,rfl,rfl,-⟩|⟨d,bm,-⟩;cases hn;exact(bm.mem n hn).2.2) si.out (by simp))
  have hq:(w1.alloc (.cells #[.string y.cell.key,.string y.cell.val,.int .i64 y.cell.over,.int .i64 y.cell.size,.int .i64 y.cell.child] 170)).heap.size=w1.heap.size+1:=by simp
  have bZ:aj w S S1:=nO.mono (by simp;omega);have oj:∀q,(q=w.heap.size\/q=w.heap.size+1\/q=w1.heap.size)->q∉S1:=fun q hq hs=>by
   have h2:=hp.old It q hs;rcases nO q hs with h3|h3
   ·have:=fZ.out q h3;omega
   ·simp at h3;omega
  have wQ:Tr.fa σ1 c0 root P L:=by
   rcases J9.out with⟨rfl,rfl,rfl,h4⟩|⟨d,bm,h4⟩
   ·exact .inl ⟨rfl,rfl,rfl,h4⟩
   ·exact .inr ⟨d,bm.congr fun n hn=>jE.same (R:=P) (fun n hn=>(bm.mem n hn).2.2) (by simp) n hn,h4⟩
  have mF:Tr.aE 0 σ P σ1 (P++y.aa):=HB.out.perm (List.Perm.refl _) List.perm_append_comm;have yq:=Jq hp (S0:=S1) (σ0:= σ1) key y (OJ.out.alloc (.cells #[.string y.cell.key,.string y.cell.val,.int .i64 y.cell.over,.int .i64 y.cell.size,.int .i64 y.cell.child] 170)) (Bk.new w1 _ _) (OM.out.alloc _) (oj _ (.inr (.inl rfl))) (oj _ (.inr (.inr rfl))) (oj _ (.inl rfl)) fi;have Xe:=v8 hp key (Tr.EU key y QZ (Nd.size_le (leaf:=true) fi.1).2) yq (hp.off It ((ah.refl [] w1).alloc _) (by simp)) (ah.refl _ _) (aj.refl _ _) root wQ mF.nodup (fun n hn=>⟨rfl,(fi.mem n hn).2.2⟩) (fun h=>by cases h) (HK.out.imp id (fun _=>by omega));have OH:=sh (Xe.mono fun e w' h=>aX.letters h);have G0:=sh (show Tr.aE 0 σ P σ1 (P++y.aa)/\ah S w (w1.alloc (.cells #[.string y.cell.key,.string y.cell.val,.int .i64 y.cell.over,.int .i64 y.cell.size,.int .i64 y.cell.child] 170))/\aj w S S1 from ⟨mF,Yt.out.alloc _,bZ⟩);have HY:=sh (show y.cell.key=key/\y.val=val.data.toList/\y.aa.length=Tr.pieces val.size from ⟨QZ,hyv,hyl⟩);clear Gn QZ hyv hyl fi jE It vu nO bZ oj wQ mF yq Xe hq;go_wp2_with fail
  refine OH.out.mono ?_;rintro e w5 ⟨a,b,rfl,oS⟩;have HE:=sh ((aX.from (k:=k) G0.out.1 (c1:=Tr.pieces val.size) (by omega) G0.out.2.1 G0.out.2.2 oS.out).more (c':=c0+Tr.pieces val.size) (n':=2) (by omega) (by omega));clear oS;go_wp2_with fail
  go_ret2
  exact⟨y,HY.out.1,HY.out.2.1,HY.out.2.2,HE.out⟩
 ·have HE:=sh (show oy p S σ k c0 P L key val w (.returned (.tuple #[.int .i64 0,.int .i64 9])) (w1.alloc (.cells #[.string c.key,.string c.val,.int .i64 c.over,.int .i64 c.size,.int .i64 c.child] 170)) from
   ⟨⟨⟨key,val,0,0,0⟩,List.replicate (Tr.pieces val.size) 0,val.data.toList⟩,rfl,rfl,by simp,.inr ⟨hF,rfl,σ1,S1,hp.off It ((ah.refl [] w1).alloc _) (by simp),Yt.out.alloc _,nO.mono (by simp;omega)⟩⟩)
  clear Gn It vu nO;go_wp2_with fail
  go_ret2
  exact HE.out
namespace Tr
theorem BX(key:ByteArray)(e:En)(L:List En):(dL key e L).length<=L.length+1:=by
 unfold dL;have:=uw L key;simp only[BY,List.length_take,List.length_drop,abB,List.length_nil];split<;>omega
theorem NJ(key:ByteArray)(e:En)(L:List En):∀x∈dL key e L,x=e\/x∈L:=by
 intro x hx;unfold dL at hx;rcases AT.1 hx with hx|hx
 ·exact .inr (List.mem_of_mem_take hx)
 ·rcases AT.1 hx with hx|hx
  ·exact .inl (by simpa using hx)
  ·exact .inr (List.mem_of_mem_drop hx)
end Tr
structure Lv where
 leaf:Bool
 cells:List Ce
 idx:Nat
namespace Tr
structure YU (σ :ag) (no:Nat) (L:List En):Prop where
 yI: σ no=some ⟨1,Nd.str true (L.map (·.cell))⟩
 right:Nd.right true (L.map (·.cell))=true
 sum:Nd.sum true (L.map (·.cell))<=488
 some:L≠[]
 rise:bB L
structure XI (σ :ag) (d no:Nat) (ks:List Kd):Prop where
 yI: σ no=some ⟨2,Nd.str false (ks.map Kd.cell)⟩
 right:Nd.right false (ks.map Kd.cell)=true
 sum:Nd.sum false (ks.map Kd.cell)<=488
 two:2<=ks.length
 sep:Sep (ks.map Kd.rg)
 kids:∀k∈ks,aJ σ d k.no k.P k.L
theorem aJ.lf{σ :ag}{no:Nat}{P:List Nat}{L:List En}(h:aJ σ 0 no P L):YU σ no L:=by
 obtain⟨cs,P',rfl,g1,g2,g3,hp,g5,g6,g7⟩:=h;have hr:=hp.right.1;obtain⟨rfl,h2,h3,h4⟩:=hp;exact⟨g3,hr,g5,g6,h3⟩
theorem aJ.br{σ :ag}{d no:Nat}{P:List Nat}{L:List En}(h:aJ σ (d+1) no P L):∃ks,XI σ d no ks/\L=ks.flatMap (·.L):=by
 obtain⟨cs,P',rfl,g1,g2,g3,hp,g5,g6,g7⟩:=h;have hr:=hp.right.1;obtain⟨ks,rfl,h2,h3,h4,h5,h6⟩:=hp;exact⟨ks,⟨g3,hr,g5,by have:=g7 rfl;rwa [aae]at this,h5,fun k hk=>(h6 k hk).2⟩,h3⟩
def On (σ :ag):Nat->Nat->List En->Nat->List Lv->Prop
 | 0,no,L,i,dA=>YU σ no L/\i<L.length/\dA=[⟨true,L.map (·.cell),i⟩]
 | d+1,no,L,i,dA=>∃(ks:List Kd) (j i':Nat) (rest:List Lv) (k:Kd),XI σ d no ks/\L=ks.flatMap (·.L)/\ks[j]? =aeu k/\On σ d k.no k.L i' rest/\i=((ks.take j).flatMap (·.L)).length+i'/\dA=⟨false,ks.map Kd.cell,j⟩::rest
theorem nL{ks:List Kd}{j:Nat}{k:Kd}(h:ks[j]? =aeu k):ks.flatMap (·.L)=(ks.take j).flatMap (·.L)++(k.L++(ks.drop (j+1)).flatMap (·.L)):=by
 obtain⟨hj,rfl⟩:=abA.1 h;have e:ks=ks.take j++(ks[j]::ks.drop (j+1)):=by rw[<-List.drop_eq_getElem_cons hj,List.take_append_drop]
 conv=>lhs;rw[e]
 rw[aC,List.flatMap_cons]
theorem Ii{ks:List Kd}{j:Nat}{k:Kd}(h:ks[j]? =aeu k):(ks.take (j+1)).flatMap (·.L)=(ks.take j).flatMap (·.L)++k.L:=by
 obtain⟨hj,rfl⟩:=abA.1 h;exact qG (·.L) ks j hj
theorem On.lt{σ :ag}:∀ {d no:Nat} {L:List En} {i:Nat} {dA:List Lv},On σ d no L i dA->i<L.length
 | 0,no,L,i,dA,h=>h.2.1
 | d+1,no,L,i,dA,h=>by
  obtain⟨ks,j,i',rest,k,h1,rfl,h3,h4,rfl,rfl⟩:=h;have:=On.lt h4;rw[nL h3];simp only[BY];omega
theorem On.len{σ :ag}:∀ {d no:Nat} {L:List En} {i:Nat} {dA:List Lv},On σ d no L i dA->dA.length=d+1
 | 0,no,L,i,dA,h=>by rw[h.2.2];rfl
 | d+1,no,L,i,dA,h=>by
  obtain⟨ks,j,i',rest,k,h1,rfl,h3,h4,rfl,rfl⟩:=h;rw[abB,On.len h4]
theorem On.last{σ :ag}:∀ {d no:Nat} {L:List En} {i:Nat} {dA:List Lv},On σ d no L i dA->∃pre cs a,dA=pre++[⟨true,cs,a⟩]/\cs[a]? =(L[i]?).map (·.cell)
 | 0,no,L,i,dA,h=>⟨[],_,i,h.2.2,by rw[acz]⟩
 | d+1,no,L,i,dA,h=>by
  obtain⟨ks,j,i',rest,k,h1,rfl,h3,h4,rfl,rfl⟩:=h;obtain⟨pre,cs,a,rfl,hc⟩:=On.last h4;refine⟨_::pre,cs,a,rfl,?_⟩;rw[hc,nL h3,abX (Nat.le_add_right _ _),Nat.add_sub_cancel_left,acr (On.lt h4)]
theorem On.idx{σ :ag}:∀ {d no:Nat} {L:List En} {i:Nat} {dA:List Lv},On σ d no L i dA->∀x∈dA,x.idx<x.cells.length
 | 0,no,L,i,dA,h,x,hx=>by
  rw[h.2.2,By]at hx;subst hx;rw[aae];exact h.2.1
 | d+1,no,L,i,dA,h,x,hx=>by
  obtain⟨ks,j,i',rest,k,h1,rfl,h3,h4,rfl,rfl⟩:=h;rcases IT.1 hx with rfl|hx
  ·rw[aae]
   exact(abA.1 h3).1
  ·exact On.idx h4 x hx
theorem On.at_end{σ :ag}:∀ {d no:Nat} {L:List En} {i:Nat} {dA:List Lv},On σ d no L i dA->(∀x∈dA,x.cells.length<=x.idx+1)->i+1=L.length
 | 0,no,L,i,dA,h,ha=>by
  have:=ha ⟨true,L.map (·.cell),i⟩ (by rw[h.2.2];simp);simp only[aae]at this;have:=h.2.1;omega
 | d+1,no,L,i,dA,h,ha=>by
  obtain⟨ks,j,i',rest,k,h1,rfl,h3,h4,rfl,rfl⟩:=h;have e:=On.at_end h4 fun x hx=>ha x (by simp[hx]);have hj:=ha _ (acs);simp only[aae]at hj;rw[nL h3,List.drop_of_length_le hj];simp;omega
theorem On.at_start{σ :ag}:∀ {d no:Nat} {L:List En} {i:Nat} {dA:List Lv},On σ d no L i dA->(∀x∈dA,x.idx=0)->i=0
 | 0,no,L,i,dA,h,ha=>ha ⟨true,L.map (·.cell),i⟩ (by rw[h.2.2];simp)
 | d+1,no,L,i,dA,h,ha=>by
  obtain⟨ks,j,i',rest,k,h1,rfl,h3,h4,rfl,rfl⟩:=h;have e:=On.at_start h4 fun x hx=>ha x (by simp[hx]);have hj:j=0:=ha ⟨false,_,j⟩ acs;subst hj e;rfl
theorem On.Sv{σ :ag}:∀ {d no:Nat} {L:List En} {i:Nat} (pre:List Lv) {x:Lv} {post:List Lv},On σ d no L i (pre++x::post)->(∀y∈post,y.cells.length<=y.idx+1)->x.idx+1<x.cells.length->
  (x.leaf=true/\On σ d no L (i+1) (pre++[⟨true,x.cells,x.idx+1⟩]))\/
  (x.leaf=false/\∃(d':Nat) (c:Ce) (L':List En) (P':List Nat),x.cells[x.idx+1]? =aeu c/\aJ σ d' c.child P' L'/\d'+pre.length+1=d/\∀rest,On σ d' c.child L' 0 rest->On σ d no L (i+1) (pre++⟨false,x.cells,x.idx+1⟩::rest))
 | 0,no,L,i,pre,x,post,h,ha,hx=>by
  have h3:=h.2.2;cases pre with
  | nil=>
   injection h3 with e1 e2;subst e1;simp only[aae]at hx;exact .inl ⟨rfl,h.1,hx,rfl⟩
  | cons y pre=>simp at h3
 | d+1,no,L,i,pre,x,post,h,ha,hx=>by
  obtain⟨ks,j,i',rest,k,h1,rfl,h3,h4,rfl,h5⟩:=h;cases pre with
  | nil=>
   injection h5 with e1 e2;subst e1 e2;simp only[aae]at hx;have e:=On.at_end h4 ha;obtain⟨k2,bO⟩:∃k2,ks[j+1]? =aeu k2:=⟨_,aaG hx⟩;refine .inr ⟨rfl,d,k2.cell,k2.L,k2.P,by rw[acz,bO];rfl,h1.kids k2 (aey bO),by simp,fun rest hr=>⟨ks,j+1,0,rest,k2,h1,rfl,bO,hr,?_,rfl⟩⟩;rw[Ii h3,BY];omega
  | cons y pre=>
   injection h5 with e1 e2;subst e1 e2;rcases On.Sv pre h4 ha hx with⟨g1,g2⟩|⟨g1,d',c,L',P',g2,g3,g4,g5⟩
   ·exact .inl ⟨g1,ks,j,i'+1,_,k,h1,rfl,h3,g2,by omega,rfl⟩
   ·exact .inr ⟨g1,d',c,L',P',g2,g3,by rw[abB];omega,fun rest hr=>⟨ks,j,i'+1,_,k,h1,rfl,h3,g5 rest hr,by omega,rfl⟩⟩
def Dn (σ :ag) (ch:List Ce->Nat) (d no:Nat) (L:List En) (i:Nat) (dA:List Lv):Prop:=On σ d no L i dA/\∀x∈dA,x.idx=ch x.cells
theorem LG{σ :ag}{ch:List Ce->Nat}(hc:∀l,l≠[]->ch l<l.length):∀ {d no:Nat} {P:List Nat} {L:List En},aJ σ d no P L->∃i dA,Dn σ ch d no L i dA
 | 0,no,P,L,h=>by
  have hl:=h.lf;have:=hc (L.map (·.cell)) (by simpa using hl.some);rw[aae]at this;exact⟨ch (L.map (·.cell)),_,⟨hl,this,rfl⟩,fun x hx=>by rw[By]at hx;subst hx;rfl⟩
 | d+1,no,P,L,h=>by
  obtain⟨ks,hb,rfl⟩:=h.br;have h2:=hb.two;have:=hc (ks.map Kd.cell) (by intro e;rw[List.map_eq_nil_iff]at e;subst e;simp at h2);rw[aae]at this;obtain⟨k,hk⟩:∃k,ks[ch (ks.map Kd.cell)]? =aeu k:=⟨_,aaG this⟩;obtain⟨i,dA,h3,h4⟩:=LG hc (hb.kids k (aey hk));refine⟨_,_,⟨ks,_,i,dA,k,hb,rfl,hk,h3,rfl,rfl⟩,fun x hx=> ?_⟩;rcases IT.1 hx with rfl|hx
  ·rfl
  ·exact h4 x hx
theorem FV{σ :ag}{d no:Nat}{L:List En}{i:Nat}{dA:List Lv}(h:Dn σ (fun _=>0) d no L i dA):i=0:=h.1.at_start h.2
end Tr
def Q5 (x:Lv×Rw):List IS:=[.bool x.1.leaf,.slice x.2.A x.2.n x.2.c,.int .i64 x.1.idx]
def eM (ls:List (Lv×Rw)):List IS:=(ls.map Q5).flatten
theorem wG(a b:List (Lv×Rw)):eM (a++b)=eM a++eM b:=by simp[eM]
theorem Ie(x:Lv×Rw):eM [x]=[.bool x.1.leaf,.slice x.2.A x.2.n x.2.c,.int .i64 x.1.idx]:=by simp[eM,Q5]
theorem nJ(x:Lv×Rw)(l:List (Lv×Rw)):eM (x::l)=Q5 x++eM l:=by simp[eM]
theorem jK:∀l:List (Lv×Rw),(eM l).length=l.length*3
 | []=>rfl
 | x::l=>by rw[nJ,BY,jK l,abB];show 3+_=_;omega
theorem ik:∀(l:List (Lv×Rw)) (i:Nat) (h:i<l.length) (j:Nat),j<3->(eM l)[i*3+j]? =(Q5 l[i])[j]?
 | x::l,0,h,j,hj=>by
  rw[nJ,Nat.zero_mul,Nat.zero_add,acr (by show j<3;exact hj)];rfl
 | x::l,i+1,h,j,hj=>by
  rw[nJ,abX (by show 3<=_;omega),show (i+1)*3+j-(Q5 x).length=i*3+j by show (i+1)*3+j-3=_;omega];exact ik l i (by simpa using h) j hj
theorem DN(x:Lv×Rw):∀u∈Q5 x,u.oneCell'=true:=by simp[Q5,Value.oneCell']
theorem jT{w:AI}{B:Nat}{e:TypeId}{s n:Nat}{v:IS}{xs:List IS}(h:w.ownsRow B e s v n xs):∃A c,v= .slice A n c/\(n≠0->∃g,A=some ⟨g,0,none⟩)/\c<=maxLen:=by
 rcases h.2 with⟨rfl,rfl⟩|⟨g,cap,_,rfl,_,_,_,hc,_⟩
 ·exact⟨none,0,rfl,fun h=>absurd rfl h,Nat.zero_le _⟩
 ·exact⟨_,cap,rfl,fun _=>⟨g,rfl⟩,hc⟩
structure lh (p:aA) (S:List Nat) (σ :ag) (c root:Nat) (R:List Nat) (w:AI) (U:List Nat) (v:IS) (ls:List (Lv×Rw)):Prop where
 aa:p.At w S σ 0
 top:Bk w c 215 #[.iface p.T p.v,.int .i64 root,v]
 row:w.ownsRow 0 283 3 v ls.length (eM ls)
 jC:∀g,v.ownBlock=some g->g∈U
 mem:c∈U
 lt:∀b∈U,b<w.heap.size
 TD:∀b∈R,b<w.heap.size
 sep:∀b∈S,b∉U/\b∉R
 Ks:∀b∈U,b∉R
 cells:∀x∈ls,aV w (fun b=>b∉U/\b∉R) x.2 x.1.cells
theorem lh.off{p:aA}(hp:Reads p){S:List Nat}{σ :ag}{c root:Nat}{R:List Nat}{w w':AI}{U:List Nat}{v:IS}{ls:List (Lv×Rw)}{X:List Nat}(h:lh p S σ c root R w U v ls)(ho:ah X w w')(hX:∀b∈X,b∈R):lh p S σ c root R w' U v ls where
 aa:=hp.off h.aa ho fun b hb hx=>(h.sep b hb).2 (hX b hx)
 top:=ho.bk h.top fun hx=>h.Ks c h.mem (hX c hx)
 row:=ho.own h.row fun g hg hx=>h.Ks g (h.jC g hg) (hX g hx)
 jC:=h.jC
 mem:=h.mem
 lt:=fun b hb=>aaf (h.lt b hb) ho.size
 TD:=fun b hb=>aaf (h.TD b hb) ho.size
 sep:=h.sep
 Ks:=h.Ks
 cells:=fun x hx=>(h.cells x hx).keep ho.size (fun b hb aI=>ho.block b aI fun hh=>hb.2 (hX b hh)) (fun b hb _=>hb)
theorem lh.below{p:aA}(hp:Reads p){S:List Nat}{σ :ag}{c root:Nat}{R:List Nat}{w w':AI}{U:List Nat}{v:IS}{ls:List (Lv×Rw)}(h:lh p S σ c root R w U v ls)(hb:No w.heap.size w w'):lh p S σ c root R w' U v ls:=h.off hp (ah.ae hb []) (by simp)
theorem lh.renew{p:aA}(hp:Reads p){S:List Nat}{σ :ag}{c root:Nat}{R:List Nat}{w w':AI}{U U':List Nat}{v v':IS}{ls ls':List (Lv×Rw)}(h:lh p S σ c root R w U v ls)(ho:ah U w w')(hU:∀b∈U,b∈U')(hf:aj w U U')(aI:∀b∈U',b<w'.heap.size)
  (ht:Bk w' c 215 #[.iface p.T p.v,.int .i64 root,v']) (hr:w'.ownsRow 0 283 3 v' ls'.length (eM ls')) (hb:∀g,v'.ownBlock=some g->g∈U')
  (hc:∀x∈ls',(∃y∈ls,y.2=x.2/\y.1.cells=x.1.cells)\/aV w' (fun b=>b∉U'/\b∉R) x.2 x.1.cells):lh p S σ c root R w' U' v' ls' where
 aa:=hp.off h.aa ho fun b hb hx=>(h.sep b hb).1 hx
 top:=ht
 row:=hr
 jC:=hb
 mem:=hU c h.mem
 lt:=aI
 TD:=fun b hb=>aaf (h.TD b hb) ho.size
 sep:=fun b hb=>⟨fun hx=>by
  rcases hf b hx with h1|h1
  ·exact(h.sep b hb).1 h1
  ·have:=hp.old h.aa b hb;omega,(h.sep b hb).2⟩
 Ks:=fun b hb hr=>by
  rcases hf b hb with h1|h1
  ·exact h.Ks b h1 hr
  ·have:=h.TD b hr;omega
 cells:=fun x hx=>by
  rcases hc x hx with⟨y,hy,e1,e2⟩|h1
  ·rw[<-e1,<-e2]
   exact(h.cells y hy).keep ho.size (fun b hb aI=>ho.block b aI hb.1) (fun b hb aI=>⟨fun hx=>by
    rcases hf b hx with h1|h1
    ·exact hb.1 h1
    ·omega,hb.2⟩)
  ·exact h1
theorem lh.wide{p:aA}{S:List Nat}{σ :ag}{c root:Nat}{R R':List Nat}{w:AI}{U:List Nat}{v:IS}(h:lh p S σ c root R w U v [])(hr:∀b∈R',b<w.heap.size/\b∉S/\b∉U):lh p S σ c root R' w U v []:=
 ⟨h.aa,h.top,h.row,h.jC,h.mem,h.lt,fun b hb=>(hr b hb).1,fun b hb=>⟨(h.sep b hb).1,fun hh=>(hr b hh).2.1 hb⟩,fun b hb hh=>(hr b hh).2.2 hb,fun x hx=>by cases hx⟩
theorem zL{p:aA}(hp:Reads p){S:List Nat}{σ :ag}{w:AI}(root:Nat)(h:p.At w S σ 0):
  Calls prog 75 #[.iface p.T p.v,.int .i64 root] w (fun e w'=>∃c,e= .returned (.pointer (some ⟨c,0,none⟩))/\No w.heap.size w w'/\w.heap.size<=c/\lh p S σ c root [] w' [c] (.slice none 0 0) []):=by
 have HA:=sh h;have HO:=sh (hp.old h);clear h;go_enter func75,ntmps75
 go_wp2_with fail
 go_ret
 refine⟨w.heap.size,rfl,(IN _ w).alloc (AS _) _,AS _,hp.off HA.out ((ah.refl [] w).alloc _) (by simp),Bk.new w _ _,acv _ _ _ _,(by intro g hg;cases hg),by simp,by simp,by simp,fun b hb=>⟨fun hh=> ?_,by simp⟩,by simp,by simp⟩;rw[By]at hh;have:=HO.out b hb;omega
theorem Lx{p:aA}(hp:Reads p){S:List Nat}{σ :ag}{c root:Nat}{R:List Nat}{w:AI}{U:List Nat}{v:IS}{ls:List (Lv×Rw)}(h:lh p S σ c root R w U v ls)(e0:Int):
  Calls prog 189 #[.pointer (some ⟨c,0,none⟩),.int .i64 e0] w (fun e w'=>e= .returned (.tuple #[.bool false,.int .i64 e0])/\ah U w w'/\lh p S σ c root R w' U (.slice none 0 0) []):=by
 have t2:=h.top.cell 2;have f2:=h.top.frozen 2;have l2:=h.top.lt;have HC:=sh h;clear h;go_enter func189,ntmps189
 go_wp2_with fail
 go_ret2
 have ho:ah U w (w.setCell ⟨c,2,none⟩ (.slice none 0 0)):=(ah.refl _ _).setCell (.inl HC.out.mem) _;exact⟨rfl,ho,HC.out.renew hp ho (fun _ h=>h) (aj.refl _ _) (fun b hb=>aaf (HC.out.lt b hb) ho.size) (HC.out.top.put 2 _) (acv _ _ _ _) (by intro g hg;cases hg) (by simp)⟩
theorem Bk.Cu{w:AI}{q:Nat}{t:TypeId}{v0 v1 v2:IS}(h:Bk w q t #[v0,v1,v2])(a0 a1 a2:IS):
  (w.setCell ⟨q,0,none⟩ a0).cell? ⟨q,0,none⟩=some a0/\((w.setCell ⟨q,0,none⟩ a0).setCell ⟨q,1,none⟩ a1).cell? ⟨q,1,none⟩=some a1/\(((w.setCell ⟨q,0,none⟩ a0).setCell ⟨q,1,none⟩ a1).setCell ⟨q,2,none⟩ a2).cell? ⟨q,2,none⟩=some a2:=by
 have h0:=h.put 0 a0;have h1:=h0.put 1 a1;have h2:=h1.put 2 a2;exact⟨h0.cell 0,h1.cell 1,h2.cell 2⟩
theorem Nj{w w2:AI}{leaf:Bool}{A:Option Addr}{n c:Nat}{cs:List Ce}{a0 a1 a2:IS}(hb:No w.heap.size w w2)(h:aV w2 (fun b=>w.heap.size<b) ⟨A,n,c⟩ cs):
  No w.heap.size w (((w2.setCell ⟨w.heap.size,0,none⟩ a0).setCell ⟨w.heap.size,1,none⟩ a1).setCell ⟨w.heap.size,2,none⟩ a2)/\∃q:Rw,Ending.returned (.tuple #[.agg #[.bool leaf,.slice A n c,.int .i64 0],.int .i64 0])= .returned (.tuple #[.agg #[.bool leaf,.slice q.A q.n q.c,.int .i64 0],.int .i64 0])/\
   aV (((w2.setCell ⟨w.heap.size,0,none⟩ a0).setCell ⟨w.heap.size,1,none⟩ a1).setCell ⟨w.heap.size,2,none⟩ a2) (fun b=>w.heap.size<=b) q cs:=by
 have ho:ah [w.heap.size] w2 (((w2.setCell ⟨w.heap.size,0,none⟩ a0).setCell ⟨w.heap.size,1,none⟩ a1).setCell ⟨w.heap.size,2,none⟩ a2):=(((ah.refl _ _).setCell (.inl (by simp)) _).setCell (.inl (by simp)) _).setCell (.inl (by simp)) _;exact⟨((ah.ae hb []).then ho (fun g hg=>by rw[By]at hg;subst hg;exact .inr (AS _))).below (AS _) (by simp),⟨A,n,c⟩,rfl,h.keep ho.size (fun b hb aI=>ho.block b aI (by rw[By];omega)) (fun b hb _=>Nat.le_of_lt hb)⟩
theorem Lu{p:aA}(hp:Reads p){S:List Nat}{σ :ag}{c root:Nat}{R:List Nat}{w:AI}{U:List Nat}{v:IS}{ls:List (Lv×Rw)}(h:lh p S σ c root R w U v ls)(hl:ls.length<10)(no:Nat)(leaf:Bool)(cs:List Ce)(hσ : σ no=some ⟨if leaf then 1 else 2,Nd.str leaf cs⟩)(hr:Nd.right leaf cs=true)(hs:Nd.sum leaf cs<=488)(bL:cs≠[]):
  Calls prog 237 #[.pointer (some ⟨c,0,none⟩),.int .i64 no] w (fun e w'=>No w.heap.size w w'/\∃q:Rw,e= .returned (.tuple #[.agg #[.bool leaf,.slice q.A q.n q.c,.int .i64 0],.int .i64 0])/\aV w' (fun b=>w.heap.size<=b) q cs):=by
 obtain⟨f,r,hn,hm,he,hld⟩:=hp.load;obtain⟨wA,wc,rfl,-,-⟩:=jT h.row;have t0:=h.top.cell 0;have t2:=h.top.cell 2;have l0:=h.top.lt;have HL:=sh fun(W:AI) (hb:No w.heap.size w W)=>hld W S σ 0 no _ (hp.below h.aa hb) hσ;have HD:=sh fun(W:AI)=>pW leaf cs W hr hs;obtain⟨s,nS⟩:∃s,s=Nd.str leaf cs:=⟨_,rfl⟩;rw[<-nS]at HL HD;have z1:decide ((10:Int)<=(ls.length:Int))=false:=decide_eq_false (by omega);have z2:decide (10<=ls.length)=false:=decide_eq_false (by omega);have od:0<cs.length:=List.length_pos_iff.2 bL;have z3:((cs.length:Int)==0)=false:=by rw[beq_eq_false_iff_ne];omega
 have z4:(cs.length==0)=false:=by rw[beq_eq_false_iff_ne];omega
 have HT:=sh h.top;clear hld h hσ nS hr hs bL;cases leaf
 all_goals
  go_enter func237,ntmps237
  go_wp2_with fail
  refine(HL.out _ ((IN _ _).alloc (AS _) _)).mono ?_;rintro e w1 ⟨ar,a,b,rfl⟩;have bh:=sh (((IN _ w).alloc (AS _) _).trans (ar.mono (by simp)));have Kb:=sh (af (Bk.new w _ _) ar);have C9:=sh (af HT.out bh.out);have c2:=C9.out.cell 2;have lc:=C9.out.lt;clear ar;go_wp2_with fail
  refine(HD.out _).mono ?_;rintro e w2 ⟨az,A,c3,rfl,au⟩;have bz:=sh ((bh.out.alloc bh.out.size _).trans (az.mono (by have:=bh.out.size;simp;omega)));have CL:=sh (af (Kb.out.alloc _) az);obtain⟨q,hq,bc⟩:=au.row;obtain⟨qA,qn,qc⟩:=q;simp only at hq;injection hq with e1 e2 e3;subst e1 e2 e3;have Gn:=bh.out.size;have qq:w.heap.size<w1.heap.size:=Kb.out.lt;have pN:=sh (show aV w2 (fun b=>w.heap.size<b) ⟨A,cs.length,c3⟩ cs from bc.keep (AS _) (fun _ _ _=>rfl) (fun b hb _=>by simp at hb;omega));have lz:=CL.out.lt;obtain⟨y0,y1,y2,x0,x1,x2⟩:w2.cell? ⟨w.heap.size,0,none⟩=some (.bool false)/\w2.cell? ⟨w.heap.size,1,none⟩=some (.slice none 0 0)/\w2.cell? ⟨w.heap.size,2,none⟩=some (.int .i64 0)/\w2.frozen? ⟨w.heap.size,0,none⟩=false/\w2.frozen? ⟨w.heap.size,1,none⟩=false/\w2.frozen? ⟨w.heap.size,2,none⟩=false:=⟨CL.out.cell 0,CL.out.cell 1,CL.out.cell 2,CL.out.frozen 0,CL.out.frozen 1,CL.out.frozen 2⟩;clear az au bc c2 t0 t2;go_wp2_with fail
  first
   | (obtain⟨s0,s1,s2⟩:=CL.out.Cu (.bool false) (.slice A cs.length c3) (.int .i64 0);refine bodyPost_ret (v:= .tuple #[.agg #[.bool false,.slice A cs.length c3,.int .i64 0],.int .i64 0]) (by simp[results,results237,go_sem,lz,s0,s1,s2]) rfl (Nj bz.out pN.out))
   | (obtain⟨s0,s1,s2⟩:=CL.out.Cu (.bool true) (.slice A cs.length c3) (.int .i64 0);refine bodyPost_ret (v:= .tuple #[.agg #[.bool true,.slice A cs.length c3,.int .i64 0],.int .i64 0]) (by simp[results,results237,go_sem,lz,s0,s1,s2]) rfl (Nj bz.out pN.out))
   | fail
def Kept (X:List Nat) (w0 W:AI):Prop:=∀b∈X,b<W.heap.size/\W.heap[b]? =w0.heap[b]?
structure Pf (fc:Nat) (cR:Array IS) (X:List Nat) (w0:AI) (ch:List Ce->Nat):Prop where
 enter:∀args W,Sem.run prog (callFunc fc args) W= .ok (.enter fc args) W
 yf:∀(W:AI),Kept X w0 W->∀(leaf:Bool) (q:Rw) (T:Nat->Prop) (cs:List Ce),aV W T q cs->cs≠[]->cs.length<=300->Calls prog fc (#[.agg #[.bool leaf,.slice q.A q.n q.c,.int .i64 0]]++cR) W (fun e w'=>e= .returned (.int .i64 (ch cs))/\No W.heap.size W w')
theorem F5(w0:AI):Pf 138 #[] [] w0 (fun _=>0):=by
 refine⟨fun args W=>call138 args W,fun W _ leaf q T cs hr bL hl=> ?_⟩;go_enter func138,ntmps138
 go_wp2_with fail
 go_ret
 exact⟨rfl,(IN _ W).alloc (AS _) _⟩
end Go.Proofs.YtjbcbnemdhbhbaaGreatDoor
