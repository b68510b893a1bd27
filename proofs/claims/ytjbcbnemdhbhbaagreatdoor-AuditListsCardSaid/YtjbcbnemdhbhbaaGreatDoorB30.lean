import Derived.Test.YtjbcbnemdhbhbaaGreatDoorB18
import Derived.Test.YtjbcbnemdhbhbaaGreatDoorB29
import Derived.Test.YtjbcbnemdhbhbaaGreatDoorB26
import Derived.Test.YtjbcbnemdhbhbaaGreatDoorB7
set_option maxRecDepth 100000
set_option linter.unusedVariables false
set_option linter.unusedSimpArgs false
set_option maxHeartbeats 40000000
open Bool renaming false_ne_true→agZ
open Go renaming Calls→aag,World→AI,bodyPost_ret→abT,results→acN
open Go.ByteArray renaming toList_eq→abY
open Go.Lib renaming hid→sh
open Go.RowKit renaming Below→No
open Go.RowKit.Below renaming refl→IN
open List renaming append_assoc→OF,flatMap_cons→abL,getElem?_eq_getElem→aaG,getElem?_eq_some_iff→abA,getElem_map→acx,getElem_mem→abw,length_map→aae,mem_append→AT,mem_cons→IT,mem_flatMap→abp,mem_iff_getElem→adv,mem_map_of_mem→abR,nodup_append→aai,nodup_cons→abN,pairwise_iff_getElem→afi
open List.Pairwise renaming nil→aft
open List.Perm renaming append_left→acw
open Nat renaming le_refl→AS
open Option.some renaming inj→adW
open Prod renaming fst→adx
namespace Go.Proofs.YtjbcbnemdhbhbaaGreatDoor
open Go.Proofs.Tryz
open Go.RowKit
namespace Nd
theorem tu{l:List Ce}{key:ByteArray}(h:has l key=true):∃c,l[spot l key]? =some c/\c.key=key:=by
 unfold has at h;cases hc:l[spot l key]? with
 | none=>rw[hc]at h;cases h
 | some c=>
  rw[hc]at h;simp only[beq_iff_eq]at h;exact⟨c,rfl,by rw[abY,abY]at h;exact ByteArray.ext (Array.ext' h)⟩
theorem ux{l:List Ce}(hr:rise l=true){key:ByteArray}{c:Ce}(hc:c∈l)(hk:c.key=key):has l key=true:=by
 obtain⟨i,hi,rfl⟩:=adv.1 hc;have h1:spot l key<=i:=by
  by_cases h:i<spot l key
  ·have:=gj l key i h hi
   rw[hk,lt_irrefl]at this;cases this
  ·omega
 have h2:spot l key=i:=by
  by_cases e:spot l key=i
  ·exact e
  ·have h3:=sD hr i (spot l key) hi (by omega)
   have h4:=px l key (by omega);rw[hk]at h3;rw[h3]at h4;cases h4
 unfold has;rw[h2,aaG hi];simp[hk]
end Nd
namespace Tr
theorem Ib{σ :ag}{cs:List Ce}{P:List Nat}{L:List En}(h:Part σ 0 cs P L)(hr:Nd.rise cs=true)(key:ByteArray):
  (∀c,Nd.has cs key=true->cs[Nd.spot cs key]? =some c->∃e∈L,e.cell=c/\c.key=key)/\(Nd.has cs key=false->∀e∈L,e.cell.key≠key):=by
 obtain⟨rfl,-,-,-⟩:=h;refine⟨fun c h1 h2=> ?_,fun h1 e he hk=> ?_⟩
 ·obtain⟨c',h3,h4⟩:=Nd.tu h1
  rw[h3]at h2;injection h2 with h2;subst h2;have:=List.mem_of_getElem? h3;obtain⟨e,he,rfl⟩:=List.mem_map.1 this;exact⟨e,he,rfl,h4⟩
 ·rw[Nd.ux hr (abR he) hk]at h1
  cases h1
theorem wE{σ :ag}{d:Nat}{cs:List Ce}{P:List Nat}{L:List En}(h:Part σ (d+1) cs P L)(hr:Nd.rise cs=true)(key:ByteArray):Nd.has cs key=true\/0<Nd.spot cs key:=by
 obtain⟨ks,rfl,-,-,⟨k,t,rfl,hk⟩,-⟩:=h;by_cases h0:0<Nd.spot ((k::t).map Kd.cell) key
 ·exact .inr h0
 ·refine .inl (Nd.ux hr (c:=k.cell) (by simp) ?_)
  have h2:Nd.spot ((k::t).map Kd.cell) key=0:=by omega
  have h1:=Nd.px ((k::t).map Kd.cell) key (by rw[h2];simp);have h1:Nd.lt k.cell.key key=false:=by
   have h9:∀i (hi:i<((k::t).map Kd.cell).length),i=0->(((k::t).map Kd.cell)[i])=k.cell:=fun i hi e=>by subst e;rfl
   rw[h9 _ _ h2]at h1;exact h1
  have h3:k.cell.key=⟨#[]⟩:=hk;rcases Nd.iF k.cell.key key with h4|h4|h4
  ·rw[h1]at h4;cases h4
  ·exact h4
  ·rw[h3,le_nil]at h4;cases h4
theorem Ad{σ :ag}{d:Nat}{cs:List Ce}{P:List Nat}{L:List En}(h:Part σ (d+1) cs P L)(hr:Nd.rise cs=true)(key:ByteArray){c:Ce}(hc:cs[Nd.low cs key]? =some c):
  ∃(P':List Nat) (L':List En),aJ σ d c.child P' L'/\(∀n∈P',n∈P)/\(∀e∈L',e∈L)/\∀e∈L,e.cell.key=key->e∈L':=by
 have hs:=wE h hr key;obtain⟨ks,rfl,rfl,rfl,-,iQ,jb⟩:=h;have hj:=abA.1 hc;obtain⟨hj,rfl⟩:=hj;obtain⟨j,hjd⟩:∃j,j=Nd.low (ks.map Kd.cell) key:=⟨_,rfl⟩;simp only[<-hjd]at hj |-;rw[aae]at hj;have jD:ks[j]∈ks:=abw hj;refine⟨ks[j].P,ks[j].L,by rw[acx];exact(jb _ jD).2,fun n hn=>abp.2 ⟨_,jD,hn⟩,fun e he=>abp.2 ⟨_,jD,he⟩,fun e he hk=> ?_⟩;obtain⟨k,Vw,he⟩:=abp.1 he;obtain⟨i,hi,rfl⟩:=adv.1 Vw;by_cases e0:i=j
 ·subst e0;exact he
 exfalso;have Me:(ks.map Kd.cell)[j]? =some (ks[j].cell):=by rw[aaG (by rw[aae];exact hj),acx]
 have hle:Nd.lt key ks[j].key=false/\(Nd.lt key ks[j].key=false):=by
  have:Nd.lt key ks[j].key=false:=by
   cases hh:Nd.has (ks.map Kd.cell) key with
   | true=>
    have:j=Nd.spot (ks.map Kd.cell) key:=by rw[hjd];unfold Nd.low;rw[hh];rfl
    obtain⟨c,h1,h2⟩:=Nd.tu hh;rw[<-this,Me]at h1;injection h1 with h1;have h3:ks[j].key=key:=by rw[<-h2,<-h1];rfl
    rw[h3];exact Nd.lt_irrefl _
   | false=>
    have hp:0<Nd.spot (ks.map Kd.cell) key:=hs.resolve_left (by rw[hh];exact agZ);have:j=Nd.spot (ks.map Kd.cell) key-1:=by rw[hjd];unfold Nd.low;rw[hh];rfl
    have h1:=Nd.gj (ks.map Kd.cell) key j (by omega) (by rw[aae];exact hj);rw[acx]at h1;exact Nd.lt_asymm h1
  exact⟨this,this⟩
 obtain⟨hle,-⟩:=hle;obtain⟨s1,s2⟩:=iQ;rw[afi]at s1;rcases Nat.lt_or_ge i j with Ki|Ki
 ·have h1:=s1 i j (by rw[aae];exact hi) (by rw[aae];exact hj) Ki e (by rw[acx];exact he)
  rw[acx,hk]at h1;have h2:Nd.lt key ks[j].key=true:=h1;rw[hle]at h2;cases h2
 ·have h1:Nd.lt key ks[i].key=false:=by
   have:=s2 ks[i].rg (abR Vw) e he;rw[hk]at this;exact this
  cases hh:Nd.has (ks.map Kd.cell) key with
  | true=>
   have hjs:j=Nd.spot (ks.map Kd.cell) key:=by rw[hjd];unfold Nd.low;rw[hh];rfl
   obtain⟨c,g1,g2⟩:=Nd.tu hh;rw[<-hjs,Me]at g1;injection g1 with g1;have g3:ks[j].key=key:=by rw[<-g2,<-g1];rfl
   have g4:=Nd.sD hr i j (by rw[aae];exact hi) (by omega);rw[acx,acx]at g4;have g5:Nd.lt ks[j].key ks[i].key=true:=g4;rw[g3,h1]at g5;cases g5
  | false=>
   have hp:0<Nd.spot (ks.map Kd.cell) key:=hs.resolve_left (by rw[hh];exact agZ);have hjs:j=Nd.spot (ks.map Kd.cell) key-1:=by rw[hjd];unfold Nd.low;rw[hh];rfl
   have g1:=Nd.iJ hr key i (by omega) (by rw[aae];exact hi);rw[acx]at g1;have g2:Nd.lt ks[i].key key=false:=g1;have g3:ks[i].cell.key=key:=by
    rcases Nd.iF ks[i].key key with h|h|h
    ·rw[g2]at h;cases h
    ·exact h
    ·rw[h1]at h;cases h
   rw[Nd.ux hr (abR Vw) g3]at hh;cases hh
end Tr
def nextO (L:List En):Option Nat->Option Nat
 | none=>none
 | some i=>if i+1<L.length then some (i+1)else none
theorem JH(σ :ag)(root:Nat)(L:List En)(yc:Int)(ch:List Ce->Nat)(h:yc=1\/yc= -1):sk σ root L yc [] none ch:=
 ⟨h,fun _=>rfl,fun pre x post m hw=>by simp at hw⟩
theorem Place.idx{σ :ag}{root:Nat}{L:List En}{o:Option Nat}{dA:List Lv}(h:Place σ root L o dA):∀x∈dA,x.idx<x.cells.length:=by
 cases o with
 | none=>rw[show dA=[] from h];simp
 | some i=>obtain⟨d,h1,h2⟩:=h;exact h2.idx
theorem Gv{p:aA}(hp:Reads p){S:List Nat}{σ :ag}{c root:Nat}{R:List Nat}{L:List En}{w:AI}{U:List Nat}{o:Option Nat}(h:fQ p S σ c root R L w U o):
  aag prog 78 #[.pointer (some ⟨c,0,none⟩)] w (fun e w'=>e= .returned (.tuple #[.bool (nextO L o).isSome,.int .i64 0])/\gk p S σ c root R L w U (nextO L o) w'):=by
 obtain⟨v,ls,h,mG⟩:=h;have bm:sk σ root L 1 (ls.map adx) (nextO L o) (fun _=>0):=by
  cases o with
  | none=>rw[show ls.map adx=[] from mG];exact JH _ _ _ _ _ (.inl rfl)
  | some i=>obtain⟨d,h1,h2⟩:=mG;exact Fe h1 h2
 have HB:=sh (RM hp h bm mG.idx (by have:=mG.len;rwa [aae]at this) (fun W=>F5 W));clear h mG bm;go_enter func78,ntmps78
 go_wp2_with fail
 refine HB.out.mono ?_;rintro e w1 ⟨rfl,Gm⟩;have HT:=sh Gm;clear Gm;go_wp2_with fail
 go_ret2
 exact⟨rfl,HT.out⟩
def cellAt (L:List En):Option Nat->Ce
 | none=>Ce.zero
 | some i=>((L[i]?).map (·.cell)).getD Ce.zero
def UM (c:Ce):Value:= .agg #[.string c.key,.string c.val,.int .i64 c.over,.int .i64 c.size,.int .i64 c.child]
theorem TA{p:aA}{S:List Nat}{σ :ag}{c root:Nat}{R:List Nat}{L:List En}{w:AI}{U:List Nat}{o:Option Nat}(h:fQ p S σ c root R L w U o):
  aag prog 139 #[.pointer (some ⟨c,0,none⟩)] w (fun e w'=>e= .returned (.tuple #[UM (cellAt L o),.bool o.isSome])/\No w.heap.size w w'):=by
 obtain⟨v,ls,h,mG⟩:=h;obtain⟨A,cc,rfl,hA,Aw⟩:=jT h.row;have t2:=h.top.cell 2;have lc:=h.top.lt;cases o with
 | none=>
  have S9:ls=[]:=List.map_eq_nil_iff.1 mG;subst S9;clear h mG hA;go_enter func139,ntmps139
  go_wp2_with fail
  exact abT (v:= .tuple #[UM (cellAt L none),.bool false]) (by simp[acN,results139,go_sem,UM,cellAt,Ce.zero]) rfl ⟨rfl,(IN _ w).alloc (AS _) _⟩
 | some i=>
  have QA:=mG.len;rw[aae]at QA;obtain⟨d,hd,tF⟩:=mG;obtain⟨pre,cs,a,hw,Xh⟩:=tF.last;have bL:ls≠[]:=by intro e;subst e;simp at hw
  have alM:0<ls.length:=List.length_pos_iff.2 bL;obtain⟨g,rfl⟩:=hA (by omega);obtain⟨⟨x,q⟩,hxq⟩:∃z,z=ls[ls.length-1]'(by omega):=⟨_,rfl⟩;have hx:x=⟨true,cs,a⟩:=by
   have h1:(ls.map adx)[ls.length-1]'(by rw[aae];omega)=x:=by rw[acx,<-hxq]
   rw[<-h1];have h2:ls.length=pre.length+1:=by have:=congrArg List.length hw;simpa using this
   simp only[hw];rw[List.getElem_append_right (by omega)];simp
  subst hx;obtain⟨c0,c1,c3,-,-,lg,-⟩:=h.level (ls.length-1) (by omega);have bc:=h.cells _ (abw (by omega:ls.length-1<ls.length));have hai:a<cs.length:=by
   have:=tF.lt;rw[aaG this]at Xh;exact(abA.1 (Xh.trans rfl)).1
  rw[<-hxq]at c0 c1 c3 bc;simp only at c0 c1 c3 bc;have fU:cellAt L (some i)=cs[a]:=by
   rw[aaG hai]at Xh;show ((L[i]?).map (·.cell)).getD Ce.zero=_;rw[<-Xh];rfl
  have O5:q.n=cs.length:=bc.1;obtain⟨b8,o8,Sw,⟨-,vj⟩,q0,q1,q2,q3,q4⟩:=bc.at a hai;obtain⟨qA,qn,qc⟩:=q;simp only at O5 Sw c1;subst O5 Sw;rw[fU];obtain⟨x,hx⟩:∃x,x=cs[a]:=⟨_,rfl⟩;rw[<-hx]at q0 q1 q2 q3 q4 |-;have y1:(a:Int)<(cs.length:Int):=by omega
  have y2:(0:Int)<=(a:Int):=by omega
  have y3:((ls.length:Int)==0)=false:=by rw[beq_eq_false_iff_ne];omega
  have y4:(ls.length==0)=false:=by rw[beq_eq_false_iff_ne];omega
  obtain⟨lm,uW⟩:∃lm,lm=ls.length-1:=⟨_,rfl⟩;rw[<-uW]at c0 c1 c3;have y5:(ls.length:Int)-1=(lm:Int):=by omega
  have y6:(lm:Int)<(ls.length:Int):=by omega
  have y7:(0:Int)<=(lm:Int):=by omega
  have y8:IntKind.i64.wrap (lm:Int)=(lm:Int):=IntWalk.i64_in _ (by omega);have y9:lm<ls.length:=by omega
  clear uW;clear h tF hw Xh hA hxq bc fU hx bL;go_enter func139,ntmps139
  go_wp2_with fail
  go_region
  go_wp2_with fail
  exact abT (v:= .tuple #[UM x,.bool true]) (by simp[acN,results139,go_sem,UM]) rfl ⟨rfl,(((IN _ w).alloc (AS _) _).alloc (by simp) _).drew⟩
theorem MU{p:aA}{S:List Nat}{σ :ag}{c root:Nat}{R:List Nat}{L:List En}{w:AI}{U:List Nat}{o:Option Nat}(h:fQ p S σ c root R L w U o):
  aag prog 77 #[.pointer (some ⟨c,0,none⟩)] w (fun e w'=>e= .returned (.string (cellAt L o).key)/\No w.heap.size w w'):=by
 have HB:=sh (TA h);obtain⟨x,hx⟩:∃x,x=cellAt L o:=⟨_,rfl⟩;rw[<-hx]at HB |-;unfold UM at HB;clear h hx;go_enter func77,ntmps77
 go_wp2_with fail
 refine HB.out.mono ?_;rintro e w1 ⟨rfl,ar⟩;have HN:=sh ar;clear ar;go_wp2_with fail
 go_ret
 exact⟨rfl,HN.out.alloc HN.out.size _⟩
def GU (L:List En):Option Nat->List UInt8
 | none=>[]
 | some i=>((L[i]?).map (·.val)).getD []
theorem Tr.aJ.nE{σ :ag}:∀ {d no:Nat} {P:List Nat} {L:List En},Tr.aJ σ d no P L->∀e∈L,Tr.ft σ e
 | 0,no,P,L,h,e,he=>by
  obtain⟨cs,P',rfl,g1,g2,g3,⟨h1,h2,h3,h4⟩,g5⟩:=h;exact h4 e he
 | d+1,no,P,L,h,e,he=>by
  obtain⟨ks,hb,rfl⟩:=h.br;obtain⟨k,hk,he⟩:=abp.1 he;exact Tr.aJ.nE (hb.kids k hk) e he
theorem zS{p:aA}(hp:Reads p){S:List Nat}{σ :ag}{c root:Nat}{R:List Nat}{L:List En}{w:AI}{U:List Nat}{i:Nat}(h:fQ p S σ c root R L w U (some i))(hi:i<L.length)(fi:∀e∈L,Tr.ft σ e):
  aag prog 147 #[.pointer (some ⟨c,0,none⟩)] w (fun e w'=>e= .returned (.tuple #[.string ⟨(GU L (some i)).toArray⟩,.int .i64 0])/\No w.heap.size w w'):=by
 have HB:=sh (TA h);obtain⟨v,ls,hc,-⟩:=h;have uS:cellAt L (some i)=L[i].cell:=by show ((L[i]?).map (·.cell)).getD Ce.zero=_;rw[aaG hi];rfl
 have hva:GU L (some i)=L[i].val:=by show ((L[i]?).map (·.val)).getD []=_;rw[aaG hi];rfl
 have HV:=sh fun(W:AI) (hb:No w.heap.size w W)=>Cz hp (hp.below hc.aa hb) L[i] (fi _ (abw hi));have t0:=hc.top.cell 0;have HT:=sh hc.top;rw[uS]at HB;rw[hva];obtain⟨x,hx⟩:∃x,x=L[i]:=⟨_,rfl⟩;rw[<-hx]at HB HV |-;unfold UM at HB;clear hc uS hva hx hi fi;go_enter func147,ntmps147
 go_wp2_with fail
 refine HB.out.mono ?_;rintro e w1 ⟨rfl,ar⟩;have HN:=sh ar;have rW:=af HT.out ar;have C9:=sh rW;have c0:=rW.cell 0;have lc:=rW.lt;clear ar rW;go_wp2_with fail
 have dO:No w.heap.size w (w1.alloc (.cells #[.string x.cell.key,.string x.cell.val,.int .i64 x.cell.over,.int .i64 x.cell.size,.int .i64 x.cell.child] 170)):=HN.out.alloc HN.out.size _;have uV:=Bk.new w1 170 #[.string x.cell.key,.string x.cell.val,.int .i64 x.cell.over,.int .i64 x.cell.size,.int .i64 x.cell.child];have hc5:=C9.out.alloc (.cells #[.string x.cell.key,.string x.cell.val,.int .i64 x.cell.over,.int .i64 x.cell.size,.int .i64 x.cell.child] 170);clear c0 lc;generalize w1.alloc (.cells #[.string x.cell.key,.string x.cell.val,.int .i64 x.cell.over,.int .i64 x.cell.size,.int .i64 x.cell.child] 170)=w5 at dO uV hc5 |-;have HVN:=sh (HV.out _ dO.drew);have ou:=sh dO;have bH:=sh (show ∀W,No w5.heap.size w5 W->W.cell? ⟨c,0,none⟩=some (.iface p.T p.v)/\W.cell? ⟨w1.heap.size,0,none⟩=some (.string x.cell.key)/\W.cell? ⟨w1.heap.size,1,none⟩=some (.string x.cell.val)/\W.cell? ⟨w1.heap.size,2,none⟩=some (.int .i64 x.cell.over)/\W.cell? ⟨w1.heap.size,3,none⟩=some (.int .i64 x.cell.size)/\W.cell? ⟨w1.heap.size,4,none⟩=some (.int .i64 x.cell.child) from fun W hb=>by
  have k1:=af hc5 hb;have k2:=af uV hb;exact⟨k1.cell 0,k2.cell 0,k2.cell 1,k2.cell 2,k2.cell 3,k2.cell 4⟩)
 clear dO uV hc5;go_region_held3 (fun W=>W.cell? ⟨c,0,none⟩=some (.iface p.T p.v)/\W.cell? ⟨w1.heap.size,0,none⟩=some (.string x.cell.key)/\W.cell? ⟨w1.heap.size,1,none⟩=some (.string x.cell.val)/\W.cell? ⟨w1.heap.size,2,none⟩=some (.int .i64 x.cell.over)/\W.cell? ⟨w1.heap.size,3,none⟩=some (.int .i64 x.cell.size)/\W.cell? ⟨w1.heap.size,4,none⟩=some (.int .i64 x.cell.child))
  (first|exact bH.out _ (IN _ _).drew|exact bH.out _ D6.out) (first|(go_at_call 122;refine HVN.out.mono ?_;rintro e w2 ⟨rfl,az⟩;have D6:=sh ((IN _ w5).drew.trans az);have fY:=sh (ou.out.drew.trans (az.mono ou.out.size));clear az))
 all_goals
  go_wp2_with fail
  go_ret2
  exact⟨rfl,fY.out⟩
namespace Tr
def Deep (σ :ag) (root:Nat) (L:List En):Prop:=(root=0/\L=[])\/∃d P,d<=8/\aJ σ d root P L
theorem dE.deep{σ :ag}{root:Nat}{P:List Nat}{L:List En}(h:dE σ root P L)(hn:P.Nodup):Deep σ root L:=by
 rcases h with⟨h1,h2,h3⟩|⟨d,h⟩
 ·exact .inl ⟨h1,h3⟩
 ·exact .inr ⟨d,P,h.low hn,h⟩
end Tr
def C7 (L:List En) (key:ByteArray) (v:Value):Prop:=
 (∃e∈L,e.cell.key=key/\v= .tuple #[.agg #[.string e.cell.key,.string e.cell.val,.int .i64 e.cell.over,.int .i64 e.cell.size,.int .i64 e.cell.child],.bool true,.int .i64 0])
 \/ ((∀e∈L,e.cell.key≠key)/\v= .tuple #[.agg #[.string ⟨#[]⟩,.string ⟨#[]⟩,.int .i64 0,.int .i64 0,.int .i64 0],.bool false,.int .i64 0])
theorem Ab{p:aA}(hp:Reads p){w:AI}{S:List Nat}{σ :ag}{k:Nat}(h:p.At w S σ k)(root:Nat){L:List En}(hd:Tr.Deep σ root L)(key:ByteArray):
  aag prog 121 #[.iface p.T p.v,.int .i64 root,.string key] w (fun e w'=>No w.heap.size w w'/\∃v,e= .returned v/\C7 L key v):=by
 have HA:=sh fun(W:AI) (hb:No w.heap.size w W)=>hp.below h hb;have HR:=sh fun(W:AI) (hb:No w.heap.size w W) (no:Nat) (leaf:Bool) (s:ByteArray) (hσ : σ no=some ⟨if leaf then 1 else 2,s⟩)=>NM hp (hp.below h hb) no leaf s hσ;have HS:=sh seekn_any;have HD:=sh hd;clear hd h hp;go_enter func121,ntmps121
 go_wp2_with fail
 go_loopw [1,15] (fun r i wr=>∃(j no:Nat),i= .int .i64 j/\r= .int .i64 no/\j<=9/\Hid (No (w.alloc (.cells #[.string ⟨#[]⟩,.string ⟨#[]⟩,.int .i64 0,.int .i64 0,.int .i64 0] 170)).heap.size (w.alloc (.cells #[.string ⟨#[]⟩,.string ⟨#[]⟩,.int .i64 0,.int .i64 0,.int .i64 0] 170)) wr)
  /\ Hid ((no=0/\L=[])\/∃d P L',d+j<=8/\Tr.aJ σ d no P L'/\(∀e∈L',e∈L)/\∀e∈L,e.cell.key=key->e∈L')) (fun _ i _=>10-(intOf i).toNat)
 case atStart=>exact⟨0,root,rfl,rfl,by omega,sh (IN _ _),sh (HD.out.imp id fun⟨d,P,h1,h2⟩=>⟨d,P,L,by omega,h2,fun _ h=>h,fun _ h _=>h⟩)⟩
 case round=>
  obtain⟨j,no,rfl,rfl,hj,HB,HI⟩:=hrel;have z1:decide ((j:Int)<10)=true:=decide_eq_true (by omega);have fO:=sh (((IN _ w).alloc (AS _) (.cells #[.string ⟨#[]⟩,.string ⟨#[]⟩,.int .i64 0,.int .i64 0,.int .i64 0] 170)).trans (HB.out.mono (by simp)));have HC:=sh (af (Bk.new w 170 #[.string ⟨#[]⟩,.string ⟨#[]⟩,.int .i64 0,.int .i64 0,.int .i64 0]) HB.out);rcases HI.out with⟨rfl,hL⟩|⟨d,P,L',hdj,bm,dv,gC⟩
  ·obtain⟨r0,r1,r2,r3,r4,s0,s1,s2,s3,s4,r5⟩:=HC.out.gz
   go_wp2_with fail
   refine abT (v:= .tuple #[.agg #[.string ⟨#[]⟩,.string ⟨#[]⟩,.int .i64 0,.int .i64 0,.int .i64 0],.bool false,.int .i64 0]) (by simp[acN,results121,go_sem,r0,r1,r2,r3,r4,r5]) rfl ⟨?_,_,rfl,.inr ⟨by simp,rfl⟩⟩;exact((((fO.out.setCell (p:=⟨w.heap.size,0,none⟩) (AS _) _).setCell (p:=⟨w.heap.size,1,none⟩) (AS _) _).setCell (p:=⟨w.heap.size,2,none⟩) (AS _) _).setCell (p:=⟨w.heap.size,3,none⟩) (AS _) _).setCell (p:=⟨w.heap.size,4,none⟩) (AS _) _
  ·obtain⟨cs,P',hP,gJ,jv,hσ,cM,dJ,bL,h2c⟩:=bm
   have z2:((no:Int)==0)=false:=by simp;omega
   cases d with
   | zero=>
    have eX:Nd.right true cs=true:=cM.right.1;have kM:=Nd.nX eX;obtain⟨MR,O8⟩:=Tr.Ib cM kM key;have rN:=sh (HR.out wr fO.out no true (Nd.str true cs) hσ);have HSK:=sh fun(W:AI)=>seekn_any true cs key W eX dJ (fun h=>nomatch h);obtain⟨q,hq⟩:∃q,q=Nd.has cs key:=⟨_,rfl⟩;have HQ:=sh hq;go_wp2_with fail
    refine rN.out.mono ?_;rintro e w2 ⟨rfl,az⟩;have bz:=sh az;clear az;go_wp2_with fail
    refine(HSK.out _).mono ?_;rintro e w3 ⟨aQ,ix,c,rfl,mV⟩;rw[<-hq];have dt:=sh (bz.out.trans (aQ.mono bz.out.size));clear aQ hq;have zq:=sh (fO.out.trans (dt.out.mono fO.out.size));obtain⟨r0,r1,r2,r3,r4,s0,s1,s2,s3,s4,r5⟩:=(af HC.out dt.out).gz;cases q with
    | true=>
     obtain⟨e,he,Qu,F3⟩:=MR c HQ.out.symm (mV.out HQ.out.symm);have HV:=sh (show C7 L key (.tuple #[.agg #[.string c.key,.string c.val,.int .i64 c.over,.int .i64 c.size,.int .i64 c.child],.bool true,.int .i64 0]) from .inl ⟨e,dv e he,by rw[Qu];exact F3,by rw[Qu]⟩);clear mV MR O8 Qu F3;go_wp2_with fail
     refine abT (v:= .tuple #[.agg #[.string c.key,.string c.val,.int .i64 c.over,.int .i64 c.size,.int .i64 c.child],.bool true,.int .i64 0]) (by simp[acN,results121,go_sem,r0,r1,r2,r3,r4,r5]) rfl ⟨?_,_,rfl,HV.out⟩;first|exact((((((zq.out.setCell (p:=⟨w.heap.size,0,none⟩) (AS _) _).setCell (p:=⟨w.heap.size,1,none⟩) (AS _) _).setCell (p:=⟨w.heap.size,2,none⟩) (AS _) _).setCell (p:=⟨w.heap.size,3,none⟩) (AS _) _).setCell (p:=⟨w.heap.size,4,none⟩) (AS _) _)).alloc (by simpa using zq.out.size) _|exact((((((zq.out.alloc zq.out.size _).setCell (p:=⟨w.heap.size,0,none⟩) (AS _) _).setCell (p:=⟨w.heap.size,1,none⟩) (AS _) _).setCell (p:=⟨w.heap.size,2,none⟩) (AS _) _).setCell (p:=⟨w.heap.size,3,none⟩) (AS _) _).setCell (p:=⟨w.heap.size,4,none⟩) (AS _) _)
    | false=>
     have HV:=sh (show C7 L key (.tuple #[.agg #[.string ⟨#[]⟩,.string ⟨#[]⟩,.int .i64 0,.int .i64 0,.int .i64 0],.bool false,.int .i64 0]) from .inr ⟨fun e he hk=>O8 HQ.out.symm e (gC e he hk) hk,rfl⟩);clear mV MR O8;go_wp2_with fail
     refine abT (v:= .tuple #[.agg #[.string ⟨#[]⟩,.string ⟨#[]⟩,.int .i64 0,.int .i64 0,.int .i64 0],.bool false,.int .i64 0]) (by simp[acN,results121,go_sem,r0,r1,r2,r3,r4,r5]) rfl ⟨?_,_,rfl,HV.out⟩;first|exact((((((zq.out.setCell (p:=⟨w.heap.size,0,none⟩) (AS _) _).setCell (p:=⟨w.heap.size,1,none⟩) (AS _) _).setCell (p:=⟨w.heap.size,2,none⟩) (AS _) _).setCell (p:=⟨w.heap.size,3,none⟩) (AS _) _).setCell (p:=⟨w.heap.size,4,none⟩) (AS _) _)).alloc (by simpa using zq.out.size) _|exact((((((zq.out.alloc zq.out.size _).setCell (p:=⟨w.heap.size,0,none⟩) (AS _) _).setCell (p:=⟨w.heap.size,1,none⟩) (AS _) _).setCell (p:=⟨w.heap.size,2,none⟩) (AS _) _).setCell (p:=⟨w.heap.size,3,none⟩) (AS _) _).setCell (p:=⟨w.heap.size,4,none⟩) (AS _) _)
   | succ d=>
    have eX:Nd.right false cs=true:=cM.right.1;have kM:=Nd.nX eX;have qo:=Tr.wE cM kM key;have HY:=sh fun(c:Ce)=>Tr.Ad cM kM key (c:=c);have rN:=sh (HR.out wr fO.out no false (Nd.str false cs) hσ);have HSK:=sh fun(W:AI)=>seekn_any false cs key W eX dJ (fun _=>qo);clear qo cM eX kM;go_wp2_with fail
    refine rN.out.mono ?_;rintro e w2 ⟨rfl,az⟩;have bz:=sh az;clear az;go_wp2_with fail
    refine(HSK.out _).mono ?_;rintro e w3 ⟨aQ,ix,c,rfl,mV⟩;obtain⟨q,hq⟩:∃q,q=Nd.has cs key:=⟨_,rfl⟩;rw[<-hq];have dt:=sh (bz.out.trans (aQ.mono bz.out.size));obtain⟨P2,L2,g1,g2,g3,g4⟩:=HY.out c mV.out;have Av:((c.child:Int)==0)=false:=by
     obtain⟨_,_,_,hh,_⟩:=g1;simp;omega
    have HG:=sh (show ∃d' P' L',d'+(j+1)<=8/\Tr.aJ σ d' c.child P' L'/\(∀e∈L',e∈L)/\∀e∈L,e.cell.key=key->e∈L' from ⟨d,P2,L2,by omega,g1,fun e he=>dv e (g3 e he),fun e he hk=>g4 e (gC e he hk) hk⟩);clear aQ hq mV g1 g2 g3 g4;go_wp2_with fail
    go_roundw
    case rel=>
     have h5:=(HB.out.trans (dt.out.mono HB.out.size));exact⟨j+1,c.child,by go_num,rfl,by(obtain⟨d',P',L',h,-⟩:=HG.out;omega),sh (by first|exact h5.alloc h5.size _|exact h5),sh (.inr HG.out)⟩
    case measure=>simp[intOf];omega
def Kz (L:List En) (key:ByteArray) (v:Value):Prop:=
 (∃e∈L,e.cell.key=key/\v= .tuple #[.string ⟨e.val.toArray⟩,.bool true,.int .i64 0])
 \/ ((∀e∈L,e.cell.key≠key)/\v= .tuple #[.string ⟨#[]⟩,.bool false,.int .i64 0])
theorem Qh{p:aA}(hp:Reads p){w:AI}{S:List Nat}{σ :ag}{k:Nat}(h:p.At w S σ k)(root:Nat){L:List En}(hd:Tr.Deep σ root L)(hL:∀e∈L,Tr.ft σ e)(key:ByteArray):
  aag prog 59 #[.iface p.T p.v,.int .i64 root,.string key] w (fun e w'=>No w.heap.size w w'/\∃v,e= .returned v/\Kz L key v):=by
 have HF:=sh (Ab hp h root hd key);have HV:=sh fun(W:AI) (hb:No w.heap.size w W) (e:En) (he:e∈L)=>Cz hp (hp.below h hb) e (hL e he);clear hd h hp hL;go_enter func59,ntmps59
 go_wp2_with fail
 refine HF.out.mono ?_;rintro e w1 ⟨ar,v,rfl,hv⟩;have bh:=sh ar;clear ar;rcases hv with⟨e,he,hk,rfl⟩|⟨iP,rfl⟩
 ·have HVE:=sh (HV.out (w1.alloc (.cells #[.string e.cell.key,.string e.cell.val,.int .i64 e.cell.over,.int .i64 e.cell.size,.int .i64 e.cell.child] 170)) (bh.out.alloc bh.out.size _) e he)
  have HG:=sh (show Kz L key (.tuple #[.string ⟨e.val.toArray⟩,.bool true,.int .i64 0]) from .inl ⟨e,he,hk,rfl⟩);clear hk he;obtain⟨c,hc⟩:∃c,c=e.cell:=⟨_,rfl⟩;obtain⟨vl,IW⟩:∃vl,vl=e.val:=⟨_,rfl⟩;rw[<-hc,<-IW]at HVE;rw[<-IW]at HG;rw[<-hc];clear hc IW HV;go_wp2_with fail
  refine HVE.out.mono ?_;rintro x w2 ⟨rfl,az⟩;have bz:=sh ((bh.out.alloc bh.out.size _).trans (az.mono (bh.out.alloc bh.out.size _).size));clear az;go_wp2_with fail
  go_ret3
  exact⟨bz.out,_,rfl,HG.out⟩
 ·have HG:=sh (show Kz L key (.tuple #[.string ⟨#[]⟩,.bool false,.int .i64 0]) from .inr ⟨iP,rfl⟩)
  clear iP HV;go_wp2_with fail
  go_ret3
  exact⟨bh.out.alloc bh.out.size _,_,rfl,HG.out⟩
structure Kr where
 q:Nat
 g:Nat
 T:List Nat
 Sd:List Nat
 P:eR
 D:DevS
 cF:ag
structure Kr.Ok (E:Kr):Prop where
 on:E.D.off=false
 steps:E.D.steps<=1000000000
 yI:∀n p,E.cF n=some p->1<=n/\(n:Int)<E.P.m.l/\∃t:Int,E.D.ve n p.kind t p.body
def dj (E:Kr):aA where
 T:=117
 v:= .agg #[.pointer (some ⟨E.q,0,none⟩)]
 At w S σ k:=Pg w E.q E.T E.g E.P/\Dev w E.g E.Sd E.D/\aO w/\ σ =E.cF/\S=E.q::0::(E.T++E.Sd)/\k=0
 F:=False
theorem JA{E:Kr}(hE:E.Ok){w:AI}(hp:Pg w E.q E.T E.g E.P)(hd:Dev w E.g E.Sd E.D)(hr:aO w)(n:Nat)(x:rO)(hx:E.cF n=some x):
  aag prog 321 #[.agg #[.pointer (some ⟨E.q,0,none⟩)],.int .i64 n] w (fun e w'=>No w.heap.size w w'/\∃a b:Int,e= .returned (.tuple #[.agg #[.int .i64 x.kind,.int .i64 a,.int .i64 b,.string x.body],.int .i64 0])):=by
 obtain⟨h1,h2,t,vw⟩:=hE.yI n x hx;have HP:=sh fun(W:AI) (hb:No w.heap.size w W)=>xe (hp.below hb) (hd.below hb) (hr.below hb) hE.steps hE.on n h1 h2 vw;clear hp hd hr hE hx h1 h2 vw;go_enter func321,ntmps321
 go_wp2_with fail
 refine(HP.out _ (((IN _ w).alloc (AS _) _).alloc (by simp) _)).mono ?_;rintro e w1 ⟨rfl,ar⟩;have qq:(w.alloc (.cells #[.pointer (some ⟨E.q,0,none⟩)] 117)).heap.size=w.heap.size+1:=by simp
 have aU:=af (Bk.new (w.alloc (.cells #[.pointer (some ⟨E.q,0,none⟩)] 117)) 126 #[.int .i64 0,.int .i64 0,.int .i64 0,.string ⟨#[]⟩]) ar;rw[qq]at aU;have HB:=sh ((((IN _ w).alloc (AS _) (.cells #[.pointer (some ⟨E.q,0,none⟩)] 117)).alloc (by simp) (.cells #[.int .i64 0,.int .i64 0,.int .i64 0,.string ⟨#[]⟩] 126)).trans (ar.mono (by simp;omega)));obtain⟨x0,x1,x2,x3⟩:=aU.four;have f0:=aU.frozen 0;have f1:=aU.frozen 1;have f2:=aU.frozen 2;have f3:=aU.frozen 3;have lp:=aU.lt;clear ar aU qq;go_wp2_with fail
 refine abT (v:= .tuple #[.agg #[.int .i64 x.kind,.int .i64 n,.int .i64 t,.string x.body],.int .i64 0]) (by simp[acN,results321,go_sem,lp,x0,x1,x2,x3]) rfl ⟨?_,n,t,rfl⟩;exact(((HB.out.setCell (p:=⟨w.heap.size+1,0,none⟩) (by simp) _).setCell (p:=⟨w.heap.size+1,1,none⟩) (by simp) _).setCell (p:=⟨w.heap.size+1,2,none⟩) (by simp) _).setCell (p:=⟨w.heap.size+1,3,none⟩) (by simp) _
theorem bT{E:Kr}(hE:E.Ok):Reads (dj E) where
 off:=by
  rintro w w' S U σ k ⟨h1,h2,h3,h4,rfl,h6⟩ ho hU;exact⟨h1.off ho (fun b hb=>hU b (by simp[hb])),h2.off ho (fun b hb=>hU b (by simp[hb])),h3.off ho (hU _ (by simp)),h4,rfl,h6⟩
 old:=by
  rintro w S σ k ⟨h1,h2,h3,h4,rfl,h6⟩ b hb;simp only[IT,AT]at hb;rcases hb with rfl|rfl|hb|hb
  ·obtain⟨_,_,hp⟩:=h1;exact hp.cells.lt
  ·exact h3.lt
  ·exact h1.old b hb
  ·exact h2.old b hb
 less:=by
  rintro w S σ k k' ⟨h1,h2,h3,h4,h5,h6⟩ hk;exact⟨h1,h2,h3,h4,h5,by omega⟩
 load:=by
  refine⟨321,.agg #[.pointer (some ⟨E.q,0,none⟩)],fun W=>by kernel_rfl,fun W=>by kernel_rfl,fun args W=>by kernel_rfl,?_⟩;rintro w S σ k no p ⟨h1,h2,h3,rfl,h5,h6⟩ hp;exact JA hE h1 h2 h3 no p hp
def Dp (e:En):Prop:=e.val.length=4/\1<=ai ⟨e.val.toArray⟩ 0 4/\ai ⟨e.val.toArray⟩ 0 4<512
def bF (L:List En) (name:ByteArray) (r:Nat):Prop:=
 (∃e∈L,e.cell.key=name/\r=ai ⟨e.val.toArray⟩ 0 4)\/((∀e∈L,e.cell.key≠name)/\r=0)
theorem uj{p:aA}(hp:Reads p){w:AI}{S:List Nat}{σ :ag}{k:Nat}(h:p.At w S σ k)(root:Nat){L:List En}(hd:Tr.Deep σ root L)(hL:∀e∈L,Tr.ft σ e)(hN:∀e∈L,Dp e)(name:ByteArray)(h1:1<=name.size)(h2:name.size<=32):
  aag prog 58 #[.iface p.T p.v,.int .i64 root,.string name] w (fun e w'=>No w.heap.size w w'/\∃r:Nat,e= .returned (.tuple #[.int .i64 r,.int .i64 0])/\bF L name r):=by
 have HG:=sh (Qh hp h root hd hL name);have bL:(name.toList==[])=false:=by
  have:name.toList.length=name.size:=by rw[abY];rfl
  cases hl:name.toList with
  | nil=>rw[hl]at this;simp at this;omega
  | cons a t=>rfl
 have VD:(name.toList==(⟨#[]⟩:ByteArray).toList)=false:=by
  have:(⟨#[]⟩:ByteArray).toList=[]:=by rw[abY]
  rw[this];exact bL
 have z1:decide ((32:Int)<(name.size:Int))=false:=decide_eq_false (by omega);have z2:decide (32<name.size)=false:=decide_eq_false (by omega);clear hd h hp hL h1;go_enter func58,ntmps58
 go_wp2_with fail
 refine HG.out.mono ?_;rintro e w1 ⟨ar,v,rfl,hv⟩;have HB:=sh ar;clear ar HG;rcases hv with⟨e,he,hk,rfl⟩|⟨iP,rfl⟩
 ·obtain⟨g1,g2,g3⟩:=hN e he
  have HR:=sh (show bF L name (ai ⟨e.val.toArray⟩ 0 4) from .inl ⟨e,he,hk,rfl⟩);obtain⟨s,hs⟩:∃s,s=(⟨e.val.toArray⟩:ByteArray):=⟨_,rfl⟩;have cZ:s.size=4:=by rw[hs];show e.val.toArray.size=4;simpa using g1
  rw[<-hs]at HR g2 g3 |-;have HT:=sh fun(W:AI)=>fK s 0 4 W (by omega) (by omega) (by omega) (by omega);obtain⟨r,hr⟩:∃r,r=ai s 0 4:=⟨_,rfl⟩;rw[<-hr]at HR HT g2 g3;have y1:((r:Int)==0)=false:=by simp;omega
  have y2:((s.size:Int)==4)=true:=by simp;omega
  have y3:=wrap_i64 r (by omega);clear hs hr he hk hN g1;go_wp2_with fail
  refine(HT.out _).mono ?_;rintro e w2 ⟨rfl,az⟩;have bz:=sh (HB.out.trans (az.mono HB.out.size));clear az;go_wp2_with fail
  go_ret2
  exact⟨bz.out,r,rfl,HR.out⟩
 ·have HR:=sh (show bF L name 0 from .inr ⟨iP,rfl⟩)
  clear iP hN;go_wp2_with fail
  go_ret2
  exact⟨HB.out,0,rfl,HR.out⟩
namespace Tr
theorem GD{key:ByteArray}{e:En}{l:List En}(hr:bB l)(he:e.cell.key=key)(x:En):x∈dL key e l↔x=e\/(x∈l/\x.cell.key≠key):=by
 obtain⟨a,b,rfl,h1,h2⟩:=bj key l;rw[et a b key e h1 h2];obtain⟨r1,r2,r3⟩:=eZ hr;have hg:=pq r2 h2;have bL:∀ {c d:ByteArray},Nd.lt c d=true->c≠d:=fun h e=>by subst e;have:=Nd.lt_asymm h;rw[h]at this;cases this
 have hb:∀y,y∈rest key b↔y∈b/\y.cell.key≠key:=fun y=>by
  refine⟨fun h=>⟨pr key b y h,fun e=>bL (hg y h) e.symm⟩,fun⟨h,hk⟩=> ?_⟩;cases b with
  | nil=>cases h
  | cons z t=>
   simp only[rest];split
   ·next hz=>
    rcases IT.1 h with rfl|h
    ·exact absurd (Nd.gx (by simpa using hz)) hk
    ·exact h
   ·exact h
 rw[AT,AT,List.mem_singleton,AT,hb];constructor
 ·rintro(h|h|h)
  ·exact .inr ⟨.inl h,bL (h1 x h)⟩
  ·exact .inl h
  ·exact .inr ⟨.inr h.1,h.2⟩
 ·rintro(h|⟨h|h,hk⟩)
  ·exact .inr (.inl h)
  ·exact .inl h
  ·exact .inr (.inr ⟨h,hk⟩)
theorem aJ.rising{σ :ag}{d no:Nat}{P:List Nat}{L:List En}(h:aJ σ d no P L):bB L:=by
 obtain⟨zQ,P',-,-,-,-,g,-⟩:=h;exact Part.rising g
theorem dE.nE{σ :ag}{root:Nat}{P:List Nat}{L:List En}(h:dE σ root P L):∀e∈L,ft σ e:=by
 rcases h with⟨-,-,rfl⟩|⟨d,h⟩
 ·simp
 ·exact h.nE
theorem dE.rising{σ :ag}{root:Nat}{P:List Nat}{L:List En}(h:dE σ root P L):bB L:=by
 rcases h with⟨-,-,rfl⟩|⟨d,h⟩
 ·exact aft
 ·exact h.rising
theorem dE.mem{σ :ag}{root:Nat}{P:List Nat}{L:List En}(h:dE σ root P L):∀n∈P,1<=n/\n<512/\ σ n≠none:=by
 rcases h with⟨-,rfl,-⟩|⟨d,h⟩
 ·simp
 ·exact h.mem
theorem dE.congr{σ σ':ag}{root:Nat}{P:List Nat}{L:List En}(h:dE σ root P L)(hk:∀n∈P,σ' n= σ n):dE σ' root P L:=by
 rcases h with⟨rfl,rfl,rfl⟩|⟨d,h⟩
 ·exact .inl ⟨rfl,rfl,rfl⟩
 ·exact .inr ⟨d,h.congr hk⟩
theorem dE.small{σ :ag}{root:Nat}{P:List Nat}{L:List En}(h:dE σ root P L):root<512:=by
 rcases h with⟨rfl,-,-⟩|⟨d,h⟩
 ·omega
 ·obtain⟨_,_,_,_,h,_⟩:=h;exact h
theorem dE.zero{σ :ag}{root:Nat}{P:List Nat}{L:List En}(h:dE σ root P L):root=0↔L=[]:=by
 rcases h with⟨rfl,rfl,rfl⟩|⟨d,h⟩
 ·simp
 ·obtain⟨_,_,_,h1,h,_,_,_,h2,_⟩:=h
  exact⟨fun e=>by omega,fun e=>absurd e h2⟩
end Tr
structure Tn where
 root:Nat
 P:List Nat
 L:List En
def Tn.Is (σ :ag) (t:Tn):Prop:=Tr.dE σ t.root t.P t.L
def Tn.zero:Tn:=⟨0,[],[]⟩
structure Forest where
 main:Tn
 R:ByteArray->Option Nat
 tr:ByteArray->Tn
 NS:List ByteArray
def eg (n:ByteArray):Prop:=1<=n.size/\n.size<=32
namespace Forest
def flat (tr:ByteArray->Tn) (l:List ByteArray):List Nat:=l.flatMap fun n=>(tr n).P
def aa (F:Forest):List Nat:=F.main.P++flat F.tr F.NS
structure Ok (F:Forest) (σ :ag):Prop where
 main:F.main.Is σ
 each:∀n,(F.tr n).Is σ
 out:∀n,n∉F.NS->F.tr n=Tn.zero
 nodup:F.aa.Nodup
 full:∀n,σ n≠none->n∈F.aa
 names:∀e∈F.main.L,Dp e
 law:∀n r,F.R n=some r->r=(F.tr n).root/\n∈F.NS
 yD:∀n,F.R n=none->bF F.main.L n (F.tr n).root
 nd:F.NS.Nodup
 valid:∀n∈F.NS,eg n
theorem ti{tr:ByteArray->Tn}{n:ByteArray}{t:Tn}:∀ {l:List ByteArray},n∉l->flat (fun m=>if m=n then t else tr m) l=flat tr l
 | [],_=>rfl
 | a::l,h=>by
  rw[IT,not_or]at h;unfold flat;rw[abL,abL];have e1:(if a=n then t else tr a)=tr a:=if_neg (fun e=>h.1 e.symm);show (if a=n then t else tr a).P++flat (fun m=>if m=n then t else tr m) l=(tr a).P++flat tr l;rw[e1,ti h.2]
def known (l:List ByteArray) (n:ByteArray):Bool:=l.any fun m=>decide (m=n)
theorem eB{l:List ByteArray}{n:ByteArray}:known l n=true↔n∈l:=by
 unfold known;rw[List.any_eq_true];constructor
 ·rintro⟨x,hx,h⟩
  have:=of_decide_eq_true h;subst this;exact hx
 ·exact fun h=>⟨n,h,by simp⟩
theorem mM(a b c:List Nat):(a++(b++c)).Perm (b++(a++c)):=by
 rw[<-OF,<-OF];exact List.perm_append_comm.append_right _
def dB (F:Forest) (n:ByteArray):Forest:=if known F.NS n=true then F else { F with NS:=n::F.NS }
theorem GV(F:Forest)(n:ByteArray):(F.dB n).tr=F.tr/\(F.dB n).R=F.R/\(F.dB n).main=F.main/\n∈(F.dB n).NS:=by
 unfold dB;split
 ·next h=>exact⟨rfl,rfl,rfl,eB.1 h⟩
 ·exact⟨rfl,rfl,rfl,by simp⟩
theorem Ok.with{F:Forest}{σ :ag}(h:F.Ok σ){n:ByteArray}(hn:eg n):(F.dB n).Ok σ :=by
 unfold dB;split
 ·exact h
 ·next yw=>
  have hm:n∉F.NS:=fun h=>yw (eB.2 h);have hp:({ F with NS:=n::F.NS }:Forest).aa=F.aa:=by
   unfold aa flat;rw[abL,h.out n hm];rfl
  refine⟨h.main,h.each,fun m mF=>h.out m (fun e=>mF (by simp[e])),by rw[hp];exact h.nodup,fun m hs=>by rw[hp];exact h.full m hs,h.names,fun m r hr=>⟨(h.law m r hr).1,by simp[(h.law m r hr).2]⟩,h.yD,abN.2 ⟨hm,h.nd⟩,fun m mF=> ?_⟩;rcases IT.1 mF with rfl|mF
  ·exact hn
  ·exact h.valid m mF
theorem Ok.split{F:Forest}{σ :ag}(h:F.Ok σ){n:ByteArray}(hn:n∈F.NS):∃a b,F.NS=a++(n::b)/\n∉a/\n∉b/\F.aa.Perm ((F.tr n).P++(F.main.P++(flat F.tr a++flat F.tr b))):=by
 obtain⟨a,b,oL⟩:=List.append_of_mem hn;have cg:=h.nd;rw[oL]at cg;have hp:=(List.perm_middle (a:=n) (l₁ :=a) (l₂ :=b)).nodup_iff.1 cg;have h1:=(abN.1 hp).1;rw[AT,not_or]at h1;refine⟨a,b,oL,h1.1,h1.2,?_⟩;unfold aa;rw[oL];unfold flat;rw[Tr.aC,abL];have e1:(F.main.P++(a.flatMap (fun n=>(F.tr n).P)++((F.tr n).P++b.flatMap (fun n=>(F.tr n).P)))).Perm (F.main.P++((F.tr n).P++(a.flatMap (fun n=>(F.tr n).P)++b.flatMap (fun n=>(F.tr n).P)))):=by
  exact acw _ (mM _ _ _)
 exact e1.trans (mM _ _ _)
def put (F:Forest) (n:ByteArray) (t:Tn):Forest:={ F.dB n with tr:=fun m=>if m=n then t else F.tr m,R:=fun m=>if m=n then some t.root else F.R m }
theorem Ok.put{F:Forest}{σ σ':ag}(h0:F.Ok σ){n:ByteArray}(hn:eg n){t:Tn}(ht:t.Is σ')(hm:Tr.Moved σ (F.tr n).P σ' t.P):(F.put n t).Ok σ':=by
 have h:=h0.with hn;obtain⟨e1,e2,e3,e4⟩:=F.GV n;unfold Forest.put;obtain⟨G,hG⟩:∃G,G=F.dB n:=⟨_,rfl⟩;rw[<-hG]at h e1 e2 e3 e4 |-;rw[<-e1]at hm;rw[<-e1,<-e2];obtain⟨a,b,oL,ha,hb,gU⟩:=h.split e4;have cg:=gU.nodup_iff.1 h.nodup;obtain⟨n1,n2,n3⟩:=aai.1 cg;have tM:∀m∈G.main.P++(flat G.tr a++flat G.tr b),σ m≠none:=fun m kL=>by
  rcases AT.1 kL with kL|kL
  ·exact(h.main.mem m kL).2.2
  ·rcases AT.1 kL with kL|kL
   all_goals
    obtain⟨x,hx,kL⟩:=abp.1 kL;exact((h.each x).mem m kL).2.2
 have jr:∀m∈G.main.P++(flat G.tr a++flat G.tr b),m∉(G.tr n).P:=fun m kL hq=>n3 m hq m kL rfl;have bZ:=hm.frame tM n2 jr;have iy:=hm.same tM jr;have pJ:(Forest.aa { G with tr:=fun m=>if m=n then t else G.tr m,R:=fun m=>if m=n then some t.root else G.R m }).Perm (t.P++(G.main.P++(flat G.tr a++flat G.tr b))):=by
  unfold Forest.aa;simp only;rw[oL];have e:flat (fun m=>if m=n then t else G.tr m) (a++n::b)=flat G.tr a++(t.P++flat G.tr b):=by
   rw[<-ti (t:=t) ha,<-ti (t:=t) hb];unfold flat;rw[Tr.aC,abL];have e9:(if n=n then t else G.tr n)=t:=if_pos rfl;show _++((if n=n then t else G.tr n).P++_)=_;rw[e9]
  rw[e];have e1:(G.main.P++(flat G.tr a++(t.P++flat G.tr b))).Perm (G.main.P++(t.P++(flat G.tr a++flat G.tr b))):=by
   exact acw _ (mM _ _ _)
  exact e1.trans (mM _ _ _)
 refine⟨h.main.congr fun m kL=>iy m (by simp[kL]),fun m=> ?_,fun m kL=> ?_,pJ.nodup_iff.2 bZ.nodup,fun m hs=> ?_,h.names,fun m r hr=> ?_,fun m hr=> ?_,h.nd,h.valid⟩
 ·by_cases e:m=n
  ·simp only[e,if_true];exact ht
  ·simp only[if_neg e]
   refine(h.each m).congr fun x hx=>iy x ?_;have nQ:m∈G.NS:=by
    by_cases hc:m∈G.NS
    ·exact hc
    ·rw[h.out m hc]at hx;cases hx
   rw[oL,AT,IT]at nQ;simp only[AT];rcases nQ with nQ|nQ|nQ
   ·exact .inr (.inl (abp.2 ⟨m,nQ,hx⟩))
   ·exact absurd nQ e
   ·exact .inr (.inr (abp.2 ⟨m,nQ,hx⟩))
 ·have e:m≠n:=fun e=>kL (by rw[e];exact e4)
  simp only[if_neg e];exact h.out m kL
 ·rw[pJ.mem_iff]
  rcases hm.W8 m hs with hd|⟨zh,mE⟩
  ·simp[hd]
  ·have:=h.full m mE
   rw[gU.mem_iff]at this;rcases AT.1 this with h9|h9
   ·exact absurd h9 zh
   ·exact AT.2 (.inr h9)
 ·by_cases e:m=n
  ·simp only[e,if_true]at hr |-
   exact⟨(adW hr).symm,e4⟩
  ·simp only[if_neg e]at hr |-
   exact h.law m r hr
 ·by_cases e:m=n
  ·simp only[e,if_true]at hr;cases hr
  ·simp only[if_neg e]at hr |-
   exact h.yD m hr
theorem Ok.root{F:Forest}{σ :ag}(h:F.Ok σ)(n:ByteArray):(∃r,F.R n=some r/\r=(F.tr n).root)\/(F.R n=none/\bF F.main.L n (F.tr n).root):=by
 cases hr:F.R n with
 | none=>exact .inr ⟨rfl,h.yD n hr⟩
 | some r=>exact .inl ⟨r,rfl,(h.law n r hr).1⟩
end Forest
theorem bF.LQ{L:List En}{name:ByteArray}{r r':Nat}(hr:Tr.bB L)(h:bF L name r)(h':bF L name r'):r=r':=by
 have key:∀e∈L,∀e'∈L,e.cell.key=e'.cell.key->e=e':=fun e he e' ZU hk=>by
  obtain⟨i,hi,rfl⟩:=adv.1 he;obtain⟨j,hj,rfl⟩:=adv.1 ZU;have hp:=afi.1 hr;rcases Nat.lt_trichotomy i j with h|h|h
  ·have:=hp i j hi hj h
   rw[hk]at this;have h2:=Nd.lt_asymm this;rw[this]at h2;cases h2
  ·subst h;rfl
  ·have:=hp j i hj hi h
   rw[hk]at this;have h2:=Nd.lt_asymm this;rw[this]at h2;cases h2
 rcases h with⟨e,he,hk,rfl⟩|⟨h,rfl⟩
 ·rcases h' with⟨e',ZU,ko,rfl⟩|⟨h',rfl⟩
  ·rw[key e he e' ZU (hk.trans ko.symm)]
  ·exact absurd hk (h' e he)
 ·rcases h' with⟨e',ZU,ko,rfl⟩|⟨h',rfl⟩
  ·exact absurd ko (h e' ZU)
  ·rfl
theorem bF.put{L:List En}(hr:Tr.bB L){key:ByteArray}{e:En}(he:e.cell.key=key)(m:ByteArray)(r:Nat):bF (Tr.dL key e L) m r↔if m=key then r=ai ⟨e.val.toArray⟩ 0 4 else bF L m r:=by
 have hm:=Tr.GD hr he;split
 ·next h=>
  subst h;constructor
  ·rintro(⟨x,hx,hk,rfl⟩|⟨h,-⟩)
   ·rcases(hm x).1 hx with rfl|⟨-,h⟩
    ·rfl
    ·exact absurd hk h
   ·exact absurd he (h e ((hm e).2 (.inl rfl)))
  ·rintro rfl
   exact .inl ⟨e,(hm e).2 (.inl rfl),he,rfl⟩
 ·next h=>
  constructor
  ·rintro(⟨x,hx,hk,rfl⟩|⟨h2,rfl⟩)
   ·rcases(hm x).1 hx with rfl|⟨hx,-⟩
    ·exact absurd (hk.symm.trans he) h
    ·exact .inl ⟨x,hx,hk,rfl⟩
   ·refine .inr ⟨fun x hx hk=>h2 x ((hm x).2 (.inr ⟨hx,fun e=>h (hk.symm.trans e)⟩)) hk,rfl⟩
  ·rintro(⟨x,hx,hk,rfl⟩|⟨h2,rfl⟩)
   ·exact .inl ⟨x,(hm x).2 (.inr ⟨hx,fun e=>h (hk.symm.trans e)⟩),hk,rfl⟩
   ·refine .inr ⟨fun x hx hk=> ?_,rfl⟩
    rcases(hm x).1 hx with rfl|⟨hx,-⟩
    ·exact h (hk.symm.trans he)
    ·exact h2 x hx hk
namespace Forest
def tell (F:Forest) (t:Tn) (n:ByteArray):Forest:={ F with main:=t,R:=fun m=>if m=n then none else F.R m }
theorem Ok.tell{F:Forest}{σ σ':ag}(h:F.Ok σ){t:Tn}(ht:t.Is σ')(hm:Tr.Moved σ F.main.P σ' t.P)(hN:∀e∈t.L,Dp e)(n:ByteArray)(hn:bF t.L n (F.tr n).root)(Gf:∀m r,m≠n->(bF F.main.L m r->bF t.L m r)):(F.tell t n).Ok σ':=by
 unfold Forest.tell;have cg:=h.nodup;unfold Forest.aa at cg;obtain⟨n1,n2,n3⟩:=aai.1 cg;have tM:∀m∈flat F.tr F.NS,σ m≠none:=fun m kL=>by
  obtain⟨x,hx,kL⟩:=abp.1 kL;exact((h.each x).mem m kL).2.2
 have jr:∀m∈flat F.tr F.NS,m∉F.main.P:=fun m kL hq=>n3 m hq m kL rfl;have bZ:=hm.frame tM n2 jr;have iy:=hm.same tM jr;refine⟨ht,fun m=>(h.each m).congr fun x hx=>iy x ?_,h.out,bZ.nodup,fun m hs=> ?_,hN,fun m r hr=> ?_,fun m hr=> ?_,h.nd,h.valid⟩
 ·have nQ:m∈F.NS:=by
   by_cases hc:m∈F.NS
   ·exact hc
   ·have e:=h.out m hc
    have MO:x∈(F.tr m).P:=hx;rw[e]at MO;cases MO
  exact abp.2 ⟨m,nQ,hx⟩
 ·show m∈t.P++flat F.tr F.NS
  rcases hm.W8 m hs with hd|⟨zh,mE⟩
  ·simp[hd]
  ·rcases AT.1 (h.full m mE)with h9|h9
   ·exact absurd h9 zh
   ·exact AT.2 (.inr h9)
 ·have hr:(if m=n then none else F.R m)=some r:=hr
  by_cases e:m=n
  ·rw[if_pos e]at hr;cases hr
  ·rw[if_neg e]at hr
   exact h.law m r hr
 ·have hr:(if m=n then none else F.R m)=none:=hr
  by_cases e:m=n
  ·subst e;exact hn
  ·rw[if_neg e]at hr
   exact Gf m _ e (h.yD m hr)
end Forest
end Go.Proofs.YtjbcbnemdhbhbaaGreatDoor
