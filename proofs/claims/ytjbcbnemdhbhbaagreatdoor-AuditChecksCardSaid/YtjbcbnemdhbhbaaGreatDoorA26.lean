import Derived.Test.YtjbcbnemdhbhbaaGreatDoorA50
import Derived.Test.YtjbcbnemdhbhbaaGreatDoorA11
set_option maxRecDepth 100000
set_option linter.unusedVariables false
set_option linter.unusedSimpArgs false
set_option maxHeartbeats 40000000
open Go renaming Value→No,World→AI
open Go.ByteArray renaming toList_eq→abV
open Go.Lib renaming hid→sh
open Go.RowKit renaming Below→IT
open Go.RowKit.Below renaming refl→BY
open Go.World renaming ownsRow_nil→ack
open List renaming flatMap_cons→abH,getElem?_append_left→acd,getElem?_append_right→abU,getElem?_eq_getElem→aaG,getElem?_eq_some_iff→abB,getElem?_map→acC,length_append→AT,length_cons→abv,length_map→IS,length_pos_iff→acy,mem_append→By,mem_cons→OF,mem_cons_self→acr,mem_of_getElem?→aew,mem_singleton→IN
open Nat renaming le_refl→AS,lt_of_lt_of_le→aal
open Option renaming some→aev
namespace Go.Proofs.YtjbcbnemdhbhbaaGreatDoor
open Go.Proofs.Tryz
open Go.RowKit
def yD (p:ay) (S:List Nat) (σ :ag) (k:Nat) (key val:ByteArray) (w w':AI) (c:Ce) (x:Int):Prop:=
 (x=0/\∃(e:En) (σ':ag),e.cell=c/\c.key=key/\e.val=val.data.toList/\e.aa.length=Tr.pieces val.size/\Tr.eI σ' e/\Tr.Moved σ [] σ' e.aa/\Step p S w w' σ' (k-Tr.pieces val.size))\/(x=9/\p.F/\∃ σ',Step p S w w' σ' 0)
theorem yD.off{p:ay}{S:List Nat}{σ :ag}{k:Nat}{key val:ByteArray}{w w':AI}{c:Ce}{x:Int}(h:yD p S σ k key val w w' c x):ah S w w':=by
 rcases h with⟨-,e,σ',-,-,-,-,-,-,S',-,h,-⟩|⟨-,-,σ',S',-,h,-⟩
 ·exact h
 ·exact h
theorem MJ{p:ay}(hp:cR p){w:AI}{S:List Nat}{σ :ag}{k:Nat}(h:p.At w S σ k)(key val:ByteArray)(dy:1<=key.size)(bR:key.size<=120)(hv:val.size<=4000)(hk:p.F\/Tr.pieces val.size<=k):
  Calls prog 103 #[.iface p.T p.v,.string key,.string val] w (fun e w'=>∃(c:Ce) (x:Int),e= .returned (.tuple #[.agg #[.string c.key,.string c.val,.int .i64 c.over,.int .i64 c.size,.int .i64 c.child],.int .i64 x])/\Hid (yD p S σ k key val w w' c x)):=by
 by_cases h96:val.size<=96
 ·have hz:Tr.pieces val.size=0:=by unfold Tr.pieces;rw[if_pos h96]
  refine(Ez p key val w h96).mono ?_;rintro e w' ⟨rfl,hb⟩;refine⟨⟨key,val,0,0,0⟩,0,rfl,sh (.inl ⟨rfl,⟨⟨key,val,0,0,0⟩,[],val.data.toList⟩,σ,rfl,rfl,rfl,by rw[hz];rfl,⟨?_,.inl ⟨rfl,rfl,rfl⟩⟩,Tr.Moved.refl (by simp) (by simp),S,hp.less (hp.below h hb) (by omega),ah.af hb S,aj.refl _ _⟩)⟩;simp[Nd.bQ];omega
 ·have hz:Tr.pieces val.size=(val.size-1)/484+1:=by unfold Tr.pieces;rw[if_neg h96]
  refine(I7 hp h key val (by omega) hv (by rw[<-hz];exact hk)).mono ?_;rintro e w' (⟨n,rfl,ns,σ',n0,n1,n2,n3,aX⟩|⟨hF,rfl,σ',aX⟩)
  ·have ur:=n2.tX
   refine⟨⟨key,⟨#[]⟩,n,val.size,0⟩,0,rfl,sh (.inl ⟨rfl,⟨⟨key,⟨#[]⟩,n,val.size,0⟩,ns,val.data.toList⟩,σ',rfl,rfl,rfl,by rw[hz];exact n1,⟨?_,.inr ⟨n0,n2,rfl⟩⟩,n3,by rw[hz];exact aX⟩)⟩;have e1:(⟨#[]⟩:ByteArray).size=0:=rfl;simp[Nd.bQ,n0,e1];omega
  ·exact⟨Ce.zero,9,rfl,sh (.inr ⟨rfl,hF,σ',aX⟩)⟩
def oH (p:ay) (S:List Nat) (σ :ag) (k c:Nat) (P:List Nat) (L:List En) (key val:ByteArray) (w:AI) (e:Ending) (w':AI):Prop:=
 ∃x:En,x.cell.key=key/\x.val=val.data.toList/\x.aa.length=Tr.pieces val.size/\ki p S σ k (c+Tr.pieces val.size) P (Tr.dB key x L) w e w'
theorem G8{p:ay}(hp:cR p){w:AI}{S:List Nat}{σ :ag}{k:Nat}(h:p.At w S σ k)(root:Nat){P:List Nat}{L:List En}{c0:Nat}(sY:Tr.ej σ c0 root P L)(bI:P.Nodup)(key val:ByteArray)(dy:1<=key.size)(bR:key.size<=120)(hv:val.size<=4000)(hk:p.F\/c0+Tr.pieces val.size<=k):
  Calls prog 48 #[.iface p.T p.v,.int .i64 root,.string key,.string val] w (oH p S σ k c0 P L key val w):=by
 have bM:(key.toList==[])=false:=by
  have:key.toList.length=key.size:=by rw[abV];rfl
  cases hl:key.toList with
  | nil=>rw[hl]at this;simp at this;omega
  | cons a t=>rfl
 have VG:(key.toList==(⟨#[]⟩:ByteArray).toList)=false:=by
  have:(⟨#[]⟩:ByteArray).toList=[]:=by rw[abV]
  rw[this];exact bM
 have z1:decide ((120:Int)<(key.size:Int))=false:=decide_eq_false (by omega);have z2:decide (120<key.size)=false:=decide_eq_false (by omega);have z3:decide ((4000:Int)<(val.size:Int))=false:=decide_eq_false (by omega);have z4:decide (4000<val.size)=false:=decide_eq_false (by omega);have HH:=sh (MJ hp (w:=(w.alloc (.cells #[.iface p.T p.v] 168)).alloc (.cells #[.string key] 9)) (hp.off h (((ah.refl [] w).alloc _).alloc _) (by simp)) key val dy bR hv (hk.imp id (fun _=>by omega)));have HA:=sh h;have Ko:=sh sY;have gj:=sh (hp.old h);have pK:=sh bI;have HK:=sh hk;clear h sY bI hk;go_enter func48,ntmps48
 go_wp2_with fail
 refine HH.out.mono ?_;rintro e w1 ⟨c,x,rfl,EK⟩;have Yr:=sh (show ah S w w1 from (((ah.refl S w).alloc _).alloc _).trans EK.off);have OW:=sh (show Bk w1 (w.heap.size+1) 9 #[.string key] from EK.off.bk (by have h:=Bk.new (w.alloc (.cells #[.iface p.T p.v] 168)) 9 #[.string key];simpa using h) (fun hs=>by have:=gj.out _ hs;omega));have O0:=sh (show Bk w1 w.heap.size 168 #[.iface p.T p.v] from EK.off.bk ((Bk.new w _ _).alloc _) (fun hs=>by have:=gj.out _ hs;omega));have nD:w.heap.size+2<=w1.heap.size:=by have:=EK.off.size;simp at this;omega
 have l0:w.heap.size<w1.heap.size:=by omega
 have l1:w.heap.size+1<w1.heap.size:=by omega
 have k0:=OW.out.cell 0;have p0:=O0.out.cell 0;rcases EK.out with⟨rfl,y,σ1,rfl,Re,hyv,hyl,fA,jJ,S1,IL,wm,oh⟩|⟨rfl,hF,σ1,S1,IL,wm,oh⟩
 ·have HB:=sh ((jJ.ma (fun n hn=>fA.kind n hn)).frame (R:=P) (fun n hn=>by rcases Ko.out with⟨rfl,rfl,rfl,-⟩|⟨d,aX,-⟩;cases hn;exact(aX.mem n hn).2.2) pK.out (by simp))
  have hq:(w1.alloc (.cells #[.string y.cell.key,.string y.cell.val,.int .i64 y.cell.over,.int .i64 y.cell.size,.int .i64 y.cell.child] 170)).heap.size=w1.heap.size+1:=by simp
  have bU:aj w S S1:=oh.mono (by simp;omega);have pR:∀q,(q=w.heap.size\/q=w.heap.size+1\/q=w1.heap.size)->q∉S1:=fun q hq hs=>by
   have h2:=hp.old IL q hs;rcases oh q hs with h3|h3
   ·have:=gj.out q h3;omega
   ·simp at h3;omega
  have xM:Tr.ej σ1 c0 root P L:=by
   rcases Ko.out with⟨rfl,rfl,rfl,h4⟩|⟨d,aX,h4⟩
   ·exact .inl ⟨rfl,rfl,rfl,h4⟩
   ·exact .inr ⟨d,aX.congr fun n hn=>jJ.same (R:=P) (fun n hn=>(aX.mem n hn).2.2) (by simp) n hn,h4⟩
  have jf:Tr.aE 0 σ P σ1 (P++y.aa):=HB.out.perm (List.Perm.refl _) List.perm_append_comm;have yZ:=JF hp (S0:=S1) (σ0:= σ1) key y (OW.out.alloc (.cells #[.string y.cell.key,.string y.cell.val,.int .i64 y.cell.over,.int .i64 y.cell.size,.int .i64 y.cell.child] 170)) (Bk.new w1 _ _) (O0.out.alloc _) (pR _ (.inr (.inl rfl))) (pR _ (.inr (.inr rfl))) (pR _ (.inl rfl)) fA;have Xh:=xh hp key (Tr.Fj key y Re (Nd.size_le (leaf:=true) fA.1).2) yZ (hp.off IL ((ah.refl [] w1).alloc _) (by simp)) (ah.refl _ _) (aj.refl _ _) root xM jf.nodup (fun n hn=>⟨rfl,(fA.mem n hn).2.2⟩) (fun h=>by cases h) (HK.out.imp id (fun _=>by omega));have OR:=sh (Xh.mono fun e w' h=>aZ.letters h);have Hs:=sh (show Tr.aE 0 σ P σ1 (P++y.aa)/\ah S w (w1.alloc (.cells #[.string y.cell.key,.string y.cell.val,.int .i64 y.cell.over,.int .i64 y.cell.size,.int .i64 y.cell.child] 170))/\aj w S S1 from ⟨jf,Yr.out.alloc _,bU⟩);have HY:=sh (show y.cell.key=key/\y.val=val.data.toList/\y.aa.length=Tr.pieces val.size from ⟨Re,hyv,hyl⟩);clear EK Re hyv hyl fA jJ IL wm oh bU pR xM jf yZ Xh hq;go_wp2_with fail
  refine OR.out.mono ?_;rintro e w5 ⟨a,b,rfl,o6⟩;have HE:=sh ((aZ.from (k:=k) Hs.out.1 (c1:=Tr.pieces val.size) (by omega) Hs.out.2.1 Hs.out.2.2 o6.out).more (c':=c0+Tr.pieces val.size) (n':=2) (by omega) (by omega));clear o6;go_wp2_with fail
  go_ret2
  exact⟨y,HY.out.1,HY.out.2.1,HY.out.2.2,HE.out⟩
 ·have HE:=sh (show oH p S σ k c0 P L key val w (.returned (.tuple #[.int .i64 0,.int .i64 9])) (w1.alloc (.cells #[.string c.key,.string c.val,.int .i64 c.over,.int .i64 c.size,.int .i64 c.child] 170)) from
   ⟨⟨⟨key,val,0,0,0⟩,List.replicate (Tr.pieces val.size) 0,val.data.toList⟩,rfl,rfl,by simp,.inr ⟨hF,rfl,σ1,S1,hp.off IL ((ah.refl [] w1).alloc _) (by simp),Yr.out.alloc _,oh.mono (by simp;omega)⟩⟩)
  clear EK IL wm oh;go_wp2_with fail
  go_ret2
  exact HE.out
namespace Tr
theorem uI:∀ks:List Kd,(∀k∈ks,k.P.length+1<=2*k.L.length+(k.L.flatMap (·.aa)).length)->(ks.flatMap (·.P)).length+ks.length<=2*(ks.flatMap (·.L)).length+((ks.flatMap (·.L)).flatMap (·.aa)).length
 | [],_=>AS _
 | k::ks,h=>by
  have h1:=h k (by simp);have h2:=uI ks fun x hx=>h x (by simp[hx]);simp only[abH,List.flatMap_append,AT,abv]at h2 |-;omega
theorem aD.count{σ :ag}:∀ {d no:Nat} {P:List Nat} {L:List En},aD σ d no P L->P.length+1<=2*L.length+(L.flatMap (·.aa)).length
 | 0,no,P,L,h=>by
  obtain⟨cs,P',rfl,g1,g2,g3,⟨-,rfl,-,-⟩,g5,g6,g7⟩:=h;have:0<L.length:=acy.2 g6;simp only[abv];omega
 | d+1,no,P,L,h=>by
  obtain⟨cs,P',rfl,g1,g2,g3,⟨ks,fy,rfl,rfl,-,-,ia⟩,g5,g6,g7⟩:=h;have h2:=g7 rfl;rw[fy,IS]at h2;have h3:=uI ks fun k hk=>aD.count (d:=d) (ia k hk).2;simp only[abv];omega
theorem NW(L:List En)(h:∀e∈L,e.aa.length<=1):(L.flatMap (·.aa)).length<=L.length:=by
 induction L with
 | nil=>exact AS _
 | cons e L ih=>
  have h1:=h e (by simp);have h2:=ih fun x hx=>h x (by simp[hx]);simp only[abH,AT,abv];omega
theorem dt.count{σ :ag}{root:Nat}{P:List Nat}{L:List En}(h:dt σ root P L)(hp:∀e∈L,e.aa.length<=1):P.length<=3*L.length:=by
 rcases h with⟨-,rfl,rfl⟩|⟨d,h⟩
 ·exact AS _
 ·have h1:=h.count
  have h2:=NW L hp;omega
theorem Cv(key:ByteArray)(e:En)(L:List En):(dB key e L).length<=L.length+1:=by
 unfold dB;have:=vm L key;simp only[AT,List.length_take,List.length_drop,abv,List.length_nil];split<;>omega
theorem NZ(key:ByteArray)(e:En)(L:List En):∀x∈dB key e L,x=e\/x∈L:=by
 intro x hx;unfold dB at hx;rcases By.1 hx with hx|hx
 ·exact .inr (List.mem_of_mem_take hx)
 ·rcases By.1 hx with hx|hx
  ·exact .inl (by simpa using hx)
  ·exact .inr (List.mem_of_mem_drop hx)
end Tr
structure Lv where
 leaf:Bool
 cells:List Ce
 idx:Nat
namespace Tr
structure YX (σ :ag) (no:Nat) (L:List En):Prop where
 zr: σ no=some ⟨1,Nd.str true (L.map (·.cell))⟩
 right:Nd.right true (L.map (·.cell))=true
 sum:Nd.sum true (L.map (·.cell))<=488
 some:L≠[]
 rise:bj L
structure XG (σ :ag) (d no:Nat) (ks:List Kd):Prop where
 zr: σ no=some ⟨2,Nd.str false (ks.map Kd.cell)⟩
 right:Nd.right false (ks.map Kd.cell)=true
 sum:Nd.sum false (ks.map Kd.cell)<=488
 two:2<=ks.length
 sep:Sep (ks.map Kd.rg)
 kids:∀k∈ks,aD σ d k.no k.P k.L
theorem aD.lf{σ :ag}{no:Nat}{P:List Nat}{L:List En}(h:aD σ 0 no P L):YX σ no L:=by
 obtain⟨cs,P',rfl,g1,g2,g3,hp,g5,g6,g7⟩:=h;have hr:=hp.right.1;obtain⟨rfl,h2,h3,h4⟩:=hp;exact⟨g3,hr,g5,g6,h3⟩
theorem aD.br{σ :ag}{d no:Nat}{P:List Nat}{L:List En}(h:aD σ (d+1) no P L):∃ks,XG σ d no ks/\L=ks.flatMap (·.L):=by
 obtain⟨cs,P',rfl,g1,g2,g3,hp,g5,g6,g7⟩:=h;have hr:=hp.right.1;obtain⟨ks,rfl,h2,h3,h4,h5,h6⟩:=hp;exact⟨ks,⟨g3,hr,g5,by have:=g7 rfl;rwa [IS]at this,h5,fun k hk=>(h6 k hk).2⟩,h3⟩
theorem aD.some{σ :ag}{d no:Nat}{P:List Nat}{L:List En}(h:aD σ d no P L):L≠[]:=by
 obtain⟨cs,P',rfl,g1,g2,g3,hp,g5,g6,g7⟩:=h;exact g6
def On (σ :ag):Nat->Nat->List En->Nat->List Lv->Prop
 | 0,no,L,i,dE=>YX σ no L/\i<L.length/\dE=[⟨true,L.map (·.cell),i⟩]
 | d+1,no,L,i,dE=>∃(ks:List Kd) (j i':Nat) (rest:List Lv) (k:Kd),XG σ d no ks/\L=ks.flatMap (·.L)/\ks[j]? =aev k/\On σ d k.no k.L i' rest/\i=((ks.take j).flatMap (·.L)).length+i'/\dE=⟨false,ks.map Kd.cell,j⟩::rest
theorem ob{ks:List Kd}{j:Nat}{k:Kd}(h:ks[j]? =aev k):ks.flatMap (·.L)=(ks.take j).flatMap (·.L)++(k.L++(ks.drop (j+1)).flatMap (·.L)):=by
 obtain⟨hj,rfl⟩:=abB.1 h;have e:ks=ks.take j++(ks[j]::ks.drop (j+1)):=by rw[<-List.drop_eq_getElem_cons hj,List.take_append_drop]
 conv=>lhs;rw[e]
 rw[aw,abH]
theorem IE{ks:List Kd}{j:Nat}{k:Kd}(h:ks[j]? =aev k):(ks.take (j+1)).flatMap (·.L)=(ks.take j).flatMap (·.L)++k.L:=by
 obtain⟨hj,rfl⟩:=abB.1 h;exact qJ (·.L) ks j hj
theorem On.lt{σ :ag}:∀ {d no:Nat} {L:List En} {i:Nat} {dE:List Lv},On σ d no L i dE->i<L.length
 | 0,no,L,i,dE,h=>h.2.1
 | d+1,no,L,i,dE,h=>by
  obtain⟨ks,j,i',rest,k,h1,rfl,h3,h4,rfl,rfl⟩:=h;have:=On.lt h4;rw[ob h3];simp only[AT];omega
theorem On.len{σ :ag}:∀ {d no:Nat} {L:List En} {i:Nat} {dE:List Lv},On σ d no L i dE->dE.length=d+1
 | 0,no,L,i,dE,h=>by rw[h.2.2];rfl
 | d+1,no,L,i,dE,h=>by
  obtain⟨ks,j,i',rest,k,h1,rfl,h3,h4,rfl,rfl⟩:=h;rw[abv,On.len h4]
theorem On.last{σ :ag}:∀ {d no:Nat} {L:List En} {i:Nat} {dE:List Lv},On σ d no L i dE->∃pre cs a,dE=pre++[⟨true,cs,a⟩]/\cs[a]? =(L[i]?).map (·.cell)
 | 0,no,L,i,dE,h=>⟨[],_,i,h.2.2,by rw[acC]⟩
 | d+1,no,L,i,dE,h=>by
  obtain⟨ks,j,i',rest,k,h1,rfl,h3,h4,rfl,rfl⟩:=h;obtain⟨pre,cs,a,rfl,hc⟩:=On.last h4;refine⟨_::pre,cs,a,rfl,?_⟩;rw[hc,ob h3,abU (Nat.le_add_right _ _),Nat.add_sub_cancel_left,acd (On.lt h4)]
theorem On.idx{σ :ag}:∀ {d no:Nat} {L:List En} {i:Nat} {dE:List Lv},On σ d no L i dE->∀x∈dE,x.idx<x.cells.length
 | 0,no,L,i,dE,h,x,hx=>by
  rw[h.2.2,IN]at hx;subst hx;rw[IS];exact h.2.1
 | d+1,no,L,i,dE,h,x,hx=>by
  obtain⟨ks,j,i',rest,k,h1,rfl,h3,h4,rfl,rfl⟩:=h;rcases OF.1 hx with rfl|hx
  ·rw[IS]
   exact(abB.1 h3).1
  ·exact On.idx h4 x hx
theorem On.at_end{σ :ag}:∀ {d no:Nat} {L:List En} {i:Nat} {dE:List Lv},On σ d no L i dE->(∀x∈dE,x.cells.length<=x.idx+1)->i+1=L.length
 | 0,no,L,i,dE,h,ha=>by
  have:=ha ⟨true,L.map (·.cell),i⟩ (by rw[h.2.2];simp);simp only[IS]at this;have:=h.2.1;omega
 | d+1,no,L,i,dE,h,ha=>by
  obtain⟨ks,j,i',rest,k,h1,rfl,h3,h4,rfl,rfl⟩:=h;have e:=On.at_end h4 fun x hx=>ha x (by simp[hx]);have hj:=ha _ (acr);simp only[IS]at hj;rw[ob h3,List.drop_of_length_le hj];simp;omega
theorem On.at_start{σ :ag}:∀ {d no:Nat} {L:List En} {i:Nat} {dE:List Lv},On σ d no L i dE->(∀x∈dE,x.idx=0)->i=0
 | 0,no,L,i,dE,h,ha=>ha ⟨true,L.map (·.cell),i⟩ (by rw[h.2.2];simp)
 | d+1,no,L,i,dE,h,ha=>by
  obtain⟨ks,j,i',rest,k,h1,rfl,h3,h4,rfl,rfl⟩:=h;have e:=On.at_start h4 fun x hx=>ha x (by simp[hx]);have hj:j=0:=ha ⟨false,_,j⟩ acr;subst hj e;rfl
theorem On.Su{σ :ag}:∀ {d no:Nat} {L:List En} {i:Nat} (pre:List Lv) {x:Lv} {post:List Lv},On σ d no L i (pre++x::post)->(∀y∈post,y.cells.length<=y.idx+1)->x.idx+1<x.cells.length->
  (x.leaf=true/\On σ d no L (i+1) (pre++[⟨true,x.cells,x.idx+1⟩]))\/
  (x.leaf=false/\∃(d':Nat) (c:Ce) (L':List En) (P':List Nat),x.cells[x.idx+1]? =aev c/\aD σ d' c.child P' L'/\d'+pre.length+1=d/\∀rest,On σ d' c.child L' 0 rest->On σ d no L (i+1) (pre++⟨false,x.cells,x.idx+1⟩::rest))
 | 0,no,L,i,pre,x,post,h,ha,hx=>by
  have h3:=h.2.2;cases pre with
  | nil=>
   injection h3 with e1 e2;subst e1;simp only[IS]at hx;exact .inl ⟨rfl,h.1,hx,rfl⟩
  | cons y pre=>simp at h3
 | d+1,no,L,i,pre,x,post,h,ha,hx=>by
  obtain⟨ks,j,i',rest,k,h1,rfl,h3,h4,rfl,h5⟩:=h;cases pre with
  | nil=>
   injection h5 with e1 e2;subst e1 e2;simp only[IS]at hx;have e:=On.at_end h4 ha;obtain⟨k2,bR⟩:∃k2,ks[j+1]? =aev k2:=⟨_,aaG hx⟩;refine .inr ⟨rfl,d,k2.cell,k2.L,k2.P,by rw[acC,bR];rfl,h1.kids k2 (aew bR),by simp,fun rest hr=>⟨ks,j+1,0,rest,k2,h1,rfl,bR,hr,?_,rfl⟩⟩;rw[IE h3,AT];omega
  | cons y pre=>
   injection h5 with e1 e2;subst e1 e2;rcases On.Su pre h4 ha hx with⟨g1,g2⟩|⟨g1,d',c,L',P',g2,g3,g4,g5⟩
   ·exact .inl ⟨g1,ks,j,i'+1,_,k,h1,rfl,h3,g2,by omega,rfl⟩
   ·exact .inr ⟨g1,d',c,L',P',g2,g3,by rw[abv];omega,fun rest hr=>⟨ks,j,i'+1,_,k,h1,rfl,h3,g5 rest hr,by omega,rfl⟩⟩
def Dn (σ :ag) (ch:List Ce->Nat) (d no:Nat) (L:List En) (i:Nat) (dE:List Lv):Prop:=On σ d no L i dE/\∀x∈dE,x.idx=ch x.cells
theorem LO{σ :ag}{ch:List Ce->Nat}(hc:∀l,l≠[]->ch l<l.length):∀ {d no:Nat} {P:List Nat} {L:List En},aD σ d no P L->∃i dE,Dn σ ch d no L i dE
 | 0,no,P,L,h=>by
  have hl:=h.lf;have:=hc (L.map (·.cell)) (by simpa using hl.some);rw[IS]at this;exact⟨ch (L.map (·.cell)),_,⟨hl,this,rfl⟩,fun x hx=>by rw[IN]at hx;subst hx;rfl⟩
 | d+1,no,P,L,h=>by
  obtain⟨ks,hb,rfl⟩:=h.br;have h2:=hb.two;have:=hc (ks.map Kd.cell) (by intro e;rw[List.map_eq_nil_iff]at e;subst e;simp at h2);rw[IS]at this;obtain⟨k,hk⟩:∃k,ks[ch (ks.map Kd.cell)]? =aev k:=⟨_,aaG this⟩;obtain⟨i,dE,h3,h4⟩:=LO hc (hb.kids k (aew hk));refine⟨_,_,⟨ks,_,i,dE,k,hb,rfl,hk,h3,rfl,rfl⟩,fun x hx=> ?_⟩;rcases OF.1 hx with rfl|hx
  ·rfl
  ·exact h4 x hx
theorem Gh{σ :ag}{d no:Nat}{L:List En}{i:Nat}{dE:List Lv}(h:Dn σ (fun _=>0) d no L i dE):i=0:=h.1.at_start h.2
end Tr
def Rj (x:Lv×Rw):List No:=[.bool x.1.leaf,.slice x.2.A x.2.n x.2.c,.int .i64 x.1.idx]
def eN (ls:List (Lv×Rw)):List No:=(ls.map Rj).flatten
theorem xz(a b:List (Lv×Rw)):eN (a++b)=eN a++eN b:=by simp[eN]
theorem IB(x:Lv×Rw):eN [x]=[.bool x.1.leaf,.slice x.2.A x.2.n x.2.c,.int .i64 x.1.idx]:=by simp[eN,Rj]
theorem nZ(x:Lv×Rw)(l:List (Lv×Rw)):eN (x::l)=Rj x++eN l:=by simp[eN]
theorem jR:∀l:List (Lv×Rw),(eN l).length=l.length*3
 | []=>rfl
 | x::l=>by rw[nZ,AT,jR l,abv];show 3+_=_;omega
theorem iu:∀(l:List (Lv×Rw)) (i:Nat) (h:i<l.length) (j:Nat),j<3->(eN l)[i*3+j]? =(Rj l[i])[j]?
 | x::l,0,h,j,hj=>by
  rw[nZ,Nat.zero_mul,Nat.zero_add,acd (by show j<3;exact hj)];rfl
 | x::l,i+1,h,j,hj=>by
  rw[nZ,abU (by show 3<=_;omega),show (i+1)*3+j-(Rj x).length=i*3+j by show (i+1)*3+j-3=_;omega];exact iu l i (by simpa using h) j hj
theorem D6(x:Lv×Rw):∀u∈Rj x,u.oneCell'=true:=by simp[Rj,Value.oneCell']
theorem j8{w:AI}{B:Nat}{e:TypeId}{s n:Nat}{v:No}{xs:List No}(h:w.ownsRow B e s v n xs):∃A c,v= .slice A n c/\(n≠0->∃g,A=some ⟨g,0,none⟩)/\c<=maxLen:=by
 rcases h.2 with⟨rfl,rfl⟩|⟨g,cap,_,rfl,_,_,_,hc,_⟩
 ·exact⟨none,0,rfl,fun h=>absurd rfl h,Nat.zero_le _⟩
 ·exact⟨_,cap,rfl,fun _=>⟨g,rfl⟩,hc⟩
structure kY (p:ay) (S:List Nat) (σ :ag) (c root:Nat) (R:List Nat) (w:AI) (U:List Nat) (v:No) (ls:List (Lv×Rw)):Prop where
 aa:p.At w S σ 0
 top:Bk w c 215 #[.iface p.T p.v,.int .i64 root,v]
 row:w.ownsRow 0 283 3 v ls.length (eN ls)
 jH:∀g,v.ownBlock=some g->g∈U
 mem:c∈U
 lt:∀b∈U,b<w.heap.size
 RO:∀b∈R,b<w.heap.size
 sep:∀b∈S,b∉U/\b∉R
 KH:∀b∈U,b∉R
 cells:∀x∈ls,aW w (fun b=>b∉U/\b∉R) x.2 x.1.cells
theorem kY.off{p:ay}(hp:Reads p){S:List Nat}{σ :ag}{c root:Nat}{R:List Nat}{w w':AI}{U:List Nat}{v:No}{ls:List (Lv×Rw)}{X:List Nat}(h:kY p S σ c root R w U v ls)(ho:ah X w w')(hX:∀b∈X,b∈R):kY p S σ c root R w' U v ls where
 aa:=hp.off h.aa ho fun b hb hx=>(h.sep b hb).2 (hX b hx)
 top:=ho.bk h.top fun hx=>h.KH c h.mem (hX c hx)
 row:=ho.own h.row fun g hg hx=>h.KH g (h.jH g hg) (hX g hx)
 jH:=h.jH
 mem:=h.mem
 lt:=fun b hb=>aal (h.lt b hb) ho.size
 RO:=fun b hb=>aal (h.RO b hb) ho.size
 sep:=h.sep
 KH:=h.KH
 cells:=fun x hx=>(h.cells x hx).keep ho.size (fun b hb aH=>ho.block b aH fun hh=>hb.2 (hX b hh)) (fun b hb _=>hb)
theorem kY.below{p:ay}(hp:Reads p){S:List Nat}{σ :ag}{c root:Nat}{R:List Nat}{w w':AI}{U:List Nat}{v:No}{ls:List (Lv×Rw)}(h:kY p S σ c root R w U v ls)(hb:IT w.heap.size w w'):kY p S σ c root R w' U v ls:=h.off hp (ah.af hb []) (by simp)
theorem kY.renew{p:ay}(hp:Reads p){S:List Nat}{σ :ag}{c root:Nat}{R:List Nat}{w w':AI}{U U':List Nat}{v v':No}{ls ls':List (Lv×Rw)}(h:kY p S σ c root R w U v ls)(ho:ah U w w')(hU:∀b∈U,b∈U')(hf:aj w U U')(aH:∀b∈U',b<w'.heap.size)
  (ht:Bk w' c 215 #[.iface p.T p.v,.int .i64 root,v']) (hr:w'.ownsRow 0 283 3 v' ls'.length (eN ls')) (hb:∀g,v'.ownBlock=some g->g∈U')
  (hc:∀x∈ls',(∃y∈ls,y.2=x.2/\y.1.cells=x.1.cells)\/aW w' (fun b=>b∉U'/\b∉R) x.2 x.1.cells):kY p S σ c root R w' U' v' ls' where
 aa:=hp.off h.aa ho fun b hb hx=>(h.sep b hb).1 hx
 top:=ht
 row:=hr
 jH:=hb
 mem:=hU c h.mem
 lt:=aH
 RO:=fun b hb=>aal (h.RO b hb) ho.size
 sep:=fun b hb=>⟨fun hx=>by
  rcases hf b hx with h1|h1
  ·exact(h.sep b hb).1 h1
  ·have:=hp.old h.aa b hb;omega,(h.sep b hb).2⟩
 KH:=fun b hb hr=>by
  rcases hf b hb with h1|h1
  ·exact h.KH b h1 hr
  ·have:=h.RO b hr;omega
 cells:=fun x hx=>by
  rcases hc x hx with⟨y,hy,e1,e2⟩|h1
  ·rw[<-e1,<-e2]
   exact(h.cells y hy).keep ho.size (fun b hb aH=>ho.block b aH hb.1) (fun b hb aH=>⟨fun hx=>by
    rcases hf b hx with h1|h1
    ·exact hb.1 h1
    ·omega,hb.2⟩)
  ·exact h1
theorem kY.wide{p:ay}{S:List Nat}{σ :ag}{c root:Nat}{R R':List Nat}{w:AI}{U:List Nat}{v:No}(h:kY p S σ c root R w U v [])(hr:∀b∈R',b<w.heap.size/\b∉S/\b∉U):kY p S σ c root R' w U v []:=
 ⟨h.aa,h.top,h.row,h.jH,h.mem,h.lt,fun b hb=>(hr b hb).1,fun b hb=>⟨(h.sep b hb).1,fun hh=>(hr b hh).2.1 hb⟩,fun b hb hh=>(hr b hh).2.2 hb,fun x hx=>by cases hx⟩
theorem tN{p:ay}(hp:Reads p){S:List Nat}{σ :ag}{w:AI}(root:Nat)(h:p.At w S σ 0):
  Calls prog 75 #[.iface p.T p.v,.int .i64 root] w (fun e w'=>∃c,e= .returned (.pointer (some ⟨c,0,none⟩))/\IT w.heap.size w w'/\w.heap.size<=c/\kY p S σ c root [] w' [c] (.slice none 0 0) []):=by
 have HA:=sh h;have HO:=sh (hp.old h);clear h;go_enter func75,ntmps75
 go_wp2_with fail
 go_ret
 refine⟨w.heap.size,rfl,(BY _ w).alloc (AS _) _,AS _,hp.off HA.out ((ah.refl [] w).alloc _) (by simp),Bk.new w _ _,ack _ _ _ _,(by intro g hg;cases hg),by simp,by simp,by simp,fun b hb=>⟨fun hh=> ?_,by simp⟩,by simp,by simp⟩;rw[IN]at hh;have:=HO.out b hb;omega
theorem LG{p:ay}(hp:Reads p){S:List Nat}{σ :ag}{c root:Nat}{R:List Nat}{w:AI}{U:List Nat}{v:No}{ls:List (Lv×Rw)}(h:kY p S σ c root R w U v ls)(e0:Int):
  Calls prog 189 #[.pointer (some ⟨c,0,none⟩),.int .i64 e0] w (fun e w'=>e= .returned (.tuple #[.bool false,.int .i64 e0])/\ah U w w'/\kY p S σ c root R w' U (.slice none 0 0) []):=by
 have t2:=h.top.cell 2;have f2:=h.top.frozen 2;have l2:=h.top.lt;have HC:=sh h;clear h;go_enter func189,ntmps189
 go_wp2_with fail
 go_ret2
 have ho:ah U w (w.setCell ⟨c,2,none⟩ (.slice none 0 0)):=(ah.refl _ _).setCell (.inl HC.out.mem) _;exact⟨rfl,ho,HC.out.renew hp ho (fun _ h=>h) (aj.refl _ _) (fun b hb=>aal (HC.out.lt b hb) ho.size) (HC.out.top.put 2 _) (ack _ _ _ _) (by intro g hg;cases hg) (by simp)⟩
theorem Bk.CR{w:AI}{q:Nat}{t:TypeId}{v0 v1 v2:No}(h:Bk w q t #[v0,v1,v2])(a0 a1 a2:No):
  (w.setCell ⟨q,0,none⟩ a0).cell? ⟨q,0,none⟩=some a0/\((w.setCell ⟨q,0,none⟩ a0).setCell ⟨q,1,none⟩ a1).cell? ⟨q,1,none⟩=some a1/\(((w.setCell ⟨q,0,none⟩ a0).setCell ⟨q,1,none⟩ a1).setCell ⟨q,2,none⟩ a2).cell? ⟨q,2,none⟩=some a2:=by
 have h0:=h.put 0 a0;have h1:=h0.put 1 a1;have h2:=h1.put 2 a2;exact⟨h0.cell 0,h1.cell 1,h2.cell 2⟩
theorem Nx{w w2:AI}{leaf:Bool}{A:Option Addr}{n c:Nat}{cs:List Ce}{a0 a1 a2:No}(hb:IT w.heap.size w w2)(h:aW w2 (fun b=>w.heap.size<b) ⟨A,n,c⟩ cs):
  IT w.heap.size w (((w2.setCell ⟨w.heap.size,0,none⟩ a0).setCell ⟨w.heap.size,1,none⟩ a1).setCell ⟨w.heap.size,2,none⟩ a2)/\∃q:Rw,Ending.returned (.tuple #[.agg #[.bool leaf,.slice A n c,.int .i64 0],.int .i64 0])= .returned (.tuple #[.agg #[.bool leaf,.slice q.A q.n q.c,.int .i64 0],.int .i64 0])/\
   aW (((w2.setCell ⟨w.heap.size,0,none⟩ a0).setCell ⟨w.heap.size,1,none⟩ a1).setCell ⟨w.heap.size,2,none⟩ a2) (fun b=>w.heap.size<=b) q cs:=by
 have ho:ah [w.heap.size] w2 (((w2.setCell ⟨w.heap.size,0,none⟩ a0).setCell ⟨w.heap.size,1,none⟩ a1).setCell ⟨w.heap.size,2,none⟩ a2):=(((ah.refl _ _).setCell (.inl (by simp)) _).setCell (.inl (by simp)) _).setCell (.inl (by simp)) _;exact⟨((ah.af hb []).then ho (fun g hg=>by rw[IN]at hg;subst hg;exact .inr (AS _))).below (AS _) (by simp),⟨A,n,c⟩,rfl,h.keep ho.size (fun b hb aH=>ho.block b aH (by rw[IN];omega)) (fun b hb _=>Nat.le_of_lt hb)⟩
theorem LD{p:ay}(hp:Reads p){S:List Nat}{σ :ag}{c root:Nat}{R:List Nat}{w:AI}{U:List Nat}{v:No}{ls:List (Lv×Rw)}(h:kY p S σ c root R w U v ls)(hl:ls.length<10)(no:Nat)(leaf:Bool)(cs:List Ce)(hσ : σ no=some ⟨if leaf then 1 else 2,Nd.str leaf cs⟩)(hr:Nd.right leaf cs=true)(hs:Nd.sum leaf cs<=488)(bM:cs≠[]):
  Calls prog 237 #[.pointer (some ⟨c,0,none⟩),.int .i64 no] w (fun e w'=>IT w.heap.size w w'/\∃q:Rw,e= .returned (.tuple #[.agg #[.bool leaf,.slice q.A q.n q.c,.int .i64 0],.int .i64 0])/\aW w' (fun b=>w.heap.size<=b) q cs):=by
 obtain⟨f,r,hn,hm,he,hld⟩:=hp.load;obtain⟨wA,wc,rfl,-,-⟩:=j8 h.row;have t0:=h.top.cell 0;have t2:=h.top.cell 2;have l0:=h.top.lt;have HL:=sh fun(W:AI) (hb:IT w.heap.size w W)=>hld W S σ 0 no _ (hp.below h.aa hb) hσ;have HD:=sh fun(W:AI)=>qh leaf cs W hr hs;obtain⟨s,nu⟩:∃s,s=Nd.str leaf cs:=⟨_,rfl⟩;rw[<-nu]at HL HD;have z1:decide ((10:Int)<=(ls.length:Int))=false:=decide_eq_false (by omega);have z2:decide (10<=ls.length)=false:=decide_eq_false (by omega);have ni:0<cs.length:=acy.2 bM;have z3:((cs.length:Int)==0)=false:=by rw[beq_eq_false_iff_ne];omega
 have z4:(cs.length==0)=false:=by rw[beq_eq_false_iff_ne];omega
 have HT:=sh h.top;clear hld h hσ nu hr hs bM;cases leaf
 all_goals
  go_enter func237,ntmps237
  go_wp2_with fail
  refine(HL.out _ ((BY _ _).alloc (AS _) _)).mono ?_;rintro e w1 ⟨ar,a,b,rfl⟩;have bh:=sh (((BY _ w).alloc (AS _) _).trans (ar.mono (by simp)));have Kp:=sh (ae (Bk.new w _ _) ar);have vK:=sh (ae HT.out bh.out);have c2:=vK.out.cell 2;have lc:=vK.out.lt;clear ar;go_wp2_with fail
  refine(HD.out _).mono ?_;rintro e w2 ⟨aC,A,c3,rfl,aq⟩;have bm:=sh ((bh.out.alloc bh.out.size _).trans (aC.mono (by have:=bh.out.size;simp;omega)));have C9:=sh (ae (Kp.out.alloc _) aC);obtain⟨q,hq,bd⟩:=aq.row;obtain⟨qA,qn,qc⟩:=q;simp only at hq;injection hq with e1 e2 e3;subst e1 e2 e3;have EK:=bh.out.size;have pS:w.heap.size<w1.heap.size:=Kp.out.lt;have oF:=sh (show aW w2 (fun b=>w.heap.size<b) ⟨A,cs.length,c3⟩ cs from bd.keep (AS _) (fun _ _ _=>rfl) (fun b hb _=>by simp at hb;omega));have lz:=C9.out.lt;obtain⟨y0,y1,y2,x0,x1,x2⟩:w2.cell? ⟨w.heap.size,0,none⟩=some (.bool false)/\w2.cell? ⟨w.heap.size,1,none⟩=some (.slice none 0 0)/\w2.cell? ⟨w.heap.size,2,none⟩=some (.int .i64 0)/\w2.frozen? ⟨w.heap.size,0,none⟩=false/\w2.frozen? ⟨w.heap.size,1,none⟩=false/\w2.frozen? ⟨w.heap.size,2,none⟩=false:=⟨C9.out.cell 0,C9.out.cell 1,C9.out.cell 2,C9.out.frozen 0,C9.out.frozen 1,C9.out.frozen 2⟩;clear aC aq bd c2 t0 t2;go_wp2_with fail
  first
   | (obtain⟨s0,s1,s2⟩:=C9.out.CR (.bool false) (.slice A cs.length c3) (.int .i64 0);refine bodyPost_ret (v:= .tuple #[.agg #[.bool false,.slice A cs.length c3,.int .i64 0],.int .i64 0]) (by simp[results,results237,go_sem,lz,s0,s1,s2]) rfl (Nx bm.out oF.out))
   | (obtain⟨s0,s1,s2⟩:=C9.out.CR (.bool true) (.slice A cs.length c3) (.int .i64 0);refine bodyPost_ret (v:= .tuple #[.agg #[.bool true,.slice A cs.length c3,.int .i64 0],.int .i64 0]) (by simp[results,results237,go_sem,lz,s0,s1,s2]) rfl (Nx bm.out oF.out))
   | fail
def Kept (X:List Nat) (w0 W:AI):Prop:=∀b∈X,b<W.heap.size/\W.heap[b]? =w0.heap[b]?
structure PF (fc:Nat) (dx:Array No) (X:List Nat) (w0:AI) (ch:List Ce->Nat):Prop where
 enter:∀args W,Sem.run prog (callFunc fc args) W= .ok (.enter fc args) W
 DX:∀(W:AI),Kept X w0 W->∀(leaf:Bool) (q:Rw) (T:Nat->Prop) (cs:List Ce),aW W T q cs->cs≠[]->cs.length<=300->Calls prog fc (#[.agg #[.bool leaf,.slice q.A q.n q.c,.int .i64 0]]++dx) W (fun e w'=>e= .returned (.int .i64 (ch cs))/\IT W.heap.size W w')
theorem Gt(w0:AI):PF 138 #[] [] w0 (fun _=>0):=by
 refine⟨fun args W=>call138 args W,fun W _ leaf q T cs hr bM hl=> ?_⟩;go_enter func138,ntmps138
 go_wp2_with fail
 go_ret
 exact⟨rfl,(BY _ W).alloc (AS _) _⟩
end Go.Proofs.YtjbcbnemdhbhbaaGreatDoor
