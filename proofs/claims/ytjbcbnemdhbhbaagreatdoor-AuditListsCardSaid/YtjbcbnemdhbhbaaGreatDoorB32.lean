import Derived.Test.YtjbcbnemdhbhbaaGreatDoorB11
import Derived.Test.YtjbcbnemdhbhbaaGreatDoorB7
import Derived.Test.YtjbcbnemdhbhbaaGreatDoorB50
import Derived.Test.YtjbcbnemdhbhbaaGreatDoorB30
import Derived.Test.YtjbcbnemdhbhbaaGreatDoorB28
set_option maxRecDepth 100000
set_option linter.unusedVariables false
set_option linter.unusedSimpArgs false
set_option maxHeartbeats 40000000
open Go renaming Value→IS,World→AI
open Go.Lib renaming hid→sh
open Go.RowKit renaming Below→No
open Go.World.ownsRow renaming lt→abr
open List renaming append_assoc→OF,append_nil→adp,drop_eq_getElem_cons→abP,drop_left→afO,flatMap_cons→abL,getElem?_append_right→abX,getElem?_map→acz,length_append→BY,length_cons→abB,length_drop→abS,length_map→aae,length_pos_iff→acU,length_take→abv,map_append→abH,mem_append→AT,mem_cons→IT,mem_cons_of_mem→ace,mem_flatMap→abp,mem_singleton→By,nil_append→adn,nodup_append→aai,pairwise_cons→adf,takeWhile_cons→aeC,take_append_drop→abm,take_left'→afk,take_take→aeh
open List.Pairwise renaming sublist→afh
open List.Sublist renaming refl→agx
open Nat renaming le_refl→AS,le_trans→abE,lt_of_lt_of_le→aaf,mul_le_mul_left→agO,pow_succ→agf,sub_self→agd,zero_add→abU
open Option.some renaming injEq→acI
namespace Go.Proofs.YtjbcbnemdhbhbaaGreatDoor
open Go.Proofs.Tryz
open Go.RowKit
theorem sc{P:Program}{ops:Array Oper}{o:Oper}{a:Act}{w:AI}{K:Act->AI->Prop}{Q:Exit->Act->AI->Prop}{E:Prop}(Kh:o.guard=none)(s x:Operand)(t tn:TypeId)
  (ho:o.op= .call { callee:= .builtin .append,args:= #[s,x],argTypes:= #[t,tn] }) (sv xv v:IS) (W':AI) (hs:a.eval s=sv) (hx:a.eval x=xv)
  (cm:(Builtin.append_ #[t,tn] o.type #[sv,xv]).run P w= .ok v W') (h:K (a.put o.dst v) W'):if Region.wanted o (yielded ops a.tmps)=true then Oper.wp P o a w K Q else E:=by
 have hw:Region.wanted o (yielded ops a.tmps)=true:=by simp[Region.wanted,Kh]
 rw[if_pos hw];unfold Oper.wp;simp[execOp,ho,resolve,invoke,builtin,hs,hx,cm,Result.andThen];exact h
theorem vT(W:AI):(zeroValue 170).run prog W= .ok (.agg #[.string ⟨#[]⟩,.string ⟨#[]⟩,.int .i64 0,.int .i64 0,.int .i64 0]) W:=by kernel_rfl
def uI:List IS:=[.string ⟨#[]⟩,.string ⟨#[]⟩,.int .i64 0,.int .i64 0,.int .i64 0]
theorem vH(W:AI)(ty:TypeId)(g off c:Nat)(cur:Array IS)(hg:W.heap[g]? =some (.cells cur 170 (0,0)))(gf:off+5<=cur.size):
  (Builtin.clear_ #[174] ty #[.slice (some ⟨g,off,none⟩) 1 c]).run prog W= .ok (.tuple #[]) (W.setRow g (cur.toList.take off++uI++cur.toList.drop (off+5)).toArray):=by
 have bm:=run_storeCells_at prog g off 170 uI 0 cur W hg (by simpa[uI]using gf) (by intro u hu;simp[uI]at hu;rcases hu with rfl|rfl<;>rfl);simp only[Nat.add_zero]at bm;have hz:(Builtin.zeroCells (Value.agg #[.string ⟨#[]⟩,.string ⟨#[]⟩,.int .i64 0,.int .i64 0,.int .i64 0]).cells 1).toList=uI:=by kernel_rfl
 simp[Builtin.clear_,run_underlying underlying174,vT,hz,bm];rfl
def Ld (g B cap i:Nat) (l:List Ce) (w:AI) (e:Ending) (w':AI):Prop:=
 e= .returned (.slice (some ⟨g,0,none⟩) (l.length-1) cap)/\aZ w' B (.slice (some ⟨g,0,none⟩) (l.length-1) cap) (l.take i++l.drop (i+1))/\ah [g] w w'
theorem DH(g B i cap:Nat)(l:List Ce)(w:AI)(h:aZ w B (.slice (some ⟨g,0,none⟩) l.length cap) l)(hi:i<l.length)(hl:l.length<=10000):
  Calls prog 202 #[.slice (some ⟨g,0,none⟩) l.length cap,.int .i64 i,.int .i64 ((i+1:Nat):Int)] w (Ld g B cap i l w):=by
 have hF:∀(j:Nat) (u:IS),(ay l)[j]? =some u->w.cell? ⟨g,j,none⟩=some u:=fun j u hu=>by
  have:=h.as.flat rfl j u hu
  rwa [abU]at this
 have ey:(ay (l.take i)).length=i*5:=by rw[bD,abv];omega
 have pG:(ay (l.drop (i+1))).length=(l.length-(i+1))*5:=by rw[bD,abS]
 obtain⟨-,qU⟩:=id h;rcases qU with⟨h0,-⟩|⟨g',DA,cur,h0,W9,aU,oh,dC,fu,cW⟩
 ·cases h0
 injection h0 with e1 e2 e3;injection e1 with e1;injection e1 with e1 _;subst e1 e3;clear e2;have pH:=lt_of_block aU;obtain⟨i0,hi0,ef,dK,dY⟩:=info_parts dX;obtain⟨m,hm⟩:∃m,l.length=i+m+1:=⟨l.length-i-1,by omega⟩;have F4:(ay (l.drop (i+1))).length=m*5:=by rw[pG,hm];congr 1;omega
 obtain⟨a,ha,A9⟩:∃a:Addr,(if cap=i+1 then (some (⟨g,0,none⟩:Addr))else some ⟨g,(i+1)*5,none⟩)=some a/\∀j u,(ay (l.drop (i+1)))[j]? =some u->w.drew.cell? (a.add j)=some u:=by
  by_cases hc:cap=i+1
  ·refine⟨_,if_pos hc,fun j u hu=> ?_⟩
   have h9:ay (l.drop (i+1))=[]:=List.eq_nil_of_length_eq_zero (by rw[F4];omega);rw[h9]at hu;simp at hu
  ·refine⟨_,if_neg hc,fun j u hu=> ?_⟩
   rw[bI];show w.cell? ⟨g,(i+1)*5+j,none⟩=some u;refine hF _ u ?_;have e:ay l=ay (l.take (i+1))++ay (l.drop (i+1)):=by rw[<-bR,abm]
   have e2:(ay (l.take (i+1))).length=(i+1)*5:=by rw[bD,abv];omega
   rw[e,abX (by omega),e2,show (i+1)*5+j-(i+1)*5=j by omega];exact hu
 have cm:=run_append_room (P:=prog) w.drew 174 174 170 i0 underlying174 hi0 g i cap cur aU a m (cap-(i+1)) (ay (l.drop (i+1))) (by rw[dK];exact F4) A9 (dW _) (by omega) (by rw[dK,F4,fu];omega);obtain⟨c1,rW⟩:∃c1:List IS,c1=cur.toList.take (i*5)++ay (l.drop (i+1))++cur.toList.drop (i*5+m*5):=⟨_,rfl⟩;rw[dK,F4,<-rW]at cm;obtain⟨W1,U0⟩:∃W1,W1=w.drew.setRow g c1.toArray:=⟨_,rfl⟩;rw[<-U0]at cm;have ar:W1.heap[g]? =some (.cells c1.toArray 170 (0,0)):=by rw[U0];exact setRow_heap w.drew g cur _ _ _ aU
 have OR:ah [g] w W1:=by
  rw[U0];exact⟨rfl,rfl,rfl,by simp[World.setRow],fun k hk hn=>setRow_other w.drew g k _ (by simpa using hn)⟩
 have od:cur.toList.length=cap*5:=by simp[fu]
 have Qo:c1.length=cap*5:=by
  rw[rW];simp only[BY,abv,abS,od,F4];omega
 have aeW:=fun ty c=>vH W1 ty g ((i+m)*5) c c1.toArray ar (by simp[Qo];omega);obtain⟨W2,hW2⟩:∃W2,W2=W1.setRow g ((c1.toArray.toList.take ((i+m)*5)++uI++c1.toArray.toList.drop ((i+m)*5+5)).toArray):=⟨_,rfl⟩;rw[<-hW2]at aeW;have Zb:Ld g B cap i l w (.returned (.slice (some ⟨g,0,none⟩) (i+m) cap)) W2:=by
  refine⟨by rw[hm];rfl,?_,OR.trans (by rw[hW2];exact⟨rfl,rfl,rfl,by simp[World.setRow],fun k hk hn=>setRow_other W1 g k _ (by simpa using hn)⟩)⟩;have hlen:(l.take i++l.drop (i+1)).length=i+m:=by rw[BY,abv,abS];omega
  refine⟨by rw[bD],.inr ⟨g,cap,_,by rw[hlen,hm];rfl,W9,by rw[hW2];exact setRow_heap W1 g _ _ _ _ ar,by omega,dC,?_,?_⟩⟩
  ·simp[uI,Qo]
   omega
  ·rw[hlen]
   have e1:c1.take ((i+m)*5)=ay (l.take i++l.drop (i+1)):=by
    rw[rW,bR];have e2:cur.toList.take (i*5)=ay (l.take i):=by
     have e4:cur.toList.take (i*5)=(cur.toList.take (l.length*5)).take (i*5):=by rw[aeh,show min (i*5) (l.length*5)=i*5 by omega]
     rw[e4,cW];have e5:ay l=ay (l.take i)++ay (l.drop i):=by rw[<-bR,abm]
     rw[e5];exact afk ey
    rw[e2];exact afk (by rw[BY,ey,F4];omega)
   simp only[OF];rw[List.take_append_of_le_length (by rw[abv,Qo];omega),aeh,Nat.min_self];exact e1
 have bV:=sh Zb;have KN:=sh cm;have CS:cap<=9223372036854775807:=by unfold maxLen at dC;omega
 have ah5:i+m+1<=cap:=by omega
 have hic:i<=cap:=by omega
 have Vu:i+1<=cap:=by omega
 have SN:i+m<=cap:=by omega
 have Kj:i+1<=i+m+1:=by omega
 have alx:(i:Int)+1<=(i:Int)+m+1:=by omega
 have hms:i+m+1-(i+1)=m:=by omega
 have QD:¬ cap=i+m:=by omega
 have h0i:(0:Int)<=(i:Int)+1:=by omega
 have h0m:(0:Int)<=(i:Int)+m:=by omega
 have og:i+m+1-(i+m)=1:=by omega
 have hwi:IntKind.i64.wrap ((i:Int)+1)=((i+1:Nat):Int):=IntWalk.i64_in _ (by omega);rw[hm];clear h hF ey pG aU fu cW dC A9 F4 cm rW ar OR od Qo U0 hW2 Zb hi hl hm oh W9;go_enter func202,ntmps202
 go_upto_region 5 with fail
 go_region_law (refine sc rfl (.tmp 22) (.tmp 25) 174 174 rfl _ _ _ _ (by simp[Act.eval,Act.put]) (by simp[Act.eval,Act.put,ha]) KN.out ?_)
 go_wp2_with fail
 go_ret
 exact bV.out
namespace Tr
def eL (key:ByteArray) (l:List En):List En:=l.take (dR l key)++l.drop (if lI l key then dR l key+1 else dR l key)
theorem de(a b:List En)(key:ByteArray)(h1:∀x∈a,Nd.lt x.cell.key key=true)(h2:∀y t,b=y::t->Nd.lt y.cell.key key=false):eL key (a++b)=a++rest key b:=by
 have hs:=jz a b key h1 h2;have hh:lI (a++b) key=(match b with|[]=>false|y::_=>y.cell.key.toList==key.toList):=by
  unfold lI Nd.has;rw[show Nd.spot ((a++b).map (·.cell)) key=a.length from hs,acz,abX (AS _),agd];cases b<;>rfl
 unfold eL;rw[hs,hh,List.take_left];cases b with
 | nil=>simp[rest]
 | cons y t=>
  simp only[rest];split
  ·have:(a++y::t).drop (a.length+1)=t:=by rw[<-List.drop_drop,afO];rfl
   rw[this]
  ·rw[afO]
theorem DG(key:ByteArray):eK key (eL key):=by
 refine⟨?_,?_,?_,?_⟩
 ·intro A l C hA hC
  obtain⟨a,b,rfl,h1,h2⟩:=bj key l;rw[de a b key h1 h2];have e0:A++(a++b)++C=(A++a)++(b++C):=by simp
  rw[e0,de (A++a) (b++C) key (fun x hx=>by rcases AT.1 hx with hx|hx;exact hA x hx;exact h1 x hx) (fun y t hy=>by
   cases b with
   | nil=>
    rw[adn]at hy;exact Nd.lt_asymm (hC y (by rw[hy];simp))
   | cons y' t'=>
    injection hy with MR O8;rw[<-MR];exact h2 y' t' rfl)]
  have e1:rest key (b++C)=rest key b++C:=by
   cases b with
   | nil=>
    cases C with
    | nil=>rfl
    | cons z u=>
     show rest key (z::u)=z::u;simp only[rest];rw[if_neg (by rw[(Nd.BB (hC z (by simp))).2];simp)]
   | cons y t=>
    show rest key (y::(t++C))=_;simp only[rest];split<;>simp
  rw[e1];simp
 ·intro l x hx
  obtain⟨a,b,rfl,h1,h2⟩:=bj key l;rw[de a b key h1 h2]at hx;rcases AT.1 hx with hx|hx
  ·exact .inl (by simp[hx])
  ·exact .inl (by have:=pr key b x hx;simp[this])
 ·intro l hr
  obtain⟨a,b,rfl,h1,h2⟩:=bj key l;rw[de a b key h1 h2];exact afh (List.Sublist.append (agx a) (ui key b)) hr
 ·intro l
  obtain⟨a,b,rfl,h1,h2⟩:=bj key l;rw[de a b key h1 h2];have e1:=Nd.mP true (a.map (·.cell)) ((rest key b).map (·.cell));have e2:=Nd.mP true (a.map (·.cell)) (b.map (·.cell));have e3:=B6 key b;rw[<-abH]at e1 e2;show Nd.sum true ((a++rest key b).map (·.cell))<=_;omega
theorem U1{l:List En}{key:ByteArray}(hr:bB l)(h:∃e∈l,e.cell.key=key):lI l key=true:=by
 obtain⟨a,b,rfl,h1,h2⟩:=bj key l;obtain⟨e,he,hk⟩:=h;have hb:e∈b:=by
  rcases AT.1 he with he|he
  ·have:=h1 e he
   rw[hk,Nd.lt_irrefl]at this;cases this
  ·exact he
 have hs:=jz a b key h1 h2;unfold lI Nd.has;rw[show Nd.spot ((a++b).map (·.cell)) key=a.length from hs,acz,abX (AS _),agd];cases b with
 | nil=>cases hb
 | cons y t=>
  have h3:=h2 y t rfl;rcases IT.1 hb with rfl|hb
  ·simp[hk]
  ·have:=(adf.1 (eZ hr).2.1).1 e hb
   rw[hk,h3]at this;cases this
theorem PY{l:List En}{key:ByteArray}(h:lI l key=true):∃hi:dR l key<l.length,eL key l=l.take (dR l key)++l.drop (dR l key+1):=by
 have hi:dR l key<l.length:=by
  by_cases hl:dR l key<l.length
  ·exact hl
  ·unfold lI Nd.has at h
   rw[List.getElem?_eq_none (by rw[aae];exact Nat.le_of_not_lt hl)]at h;cases h
 refine⟨hi,?_⟩;unfold eL;rw[h];rfl
theorem ye{σ σ':ag}{l:List En}{i:Nat}{old:En}(hi:i<l.length)(ho:old=l[i])(hl:∀x∈l,Tr.ft σ x)(cg:(l.flatMap (·.aa)++([]:List Nat)).Nodup)(hm:Tr.Moved σ old.aa σ' []):
  Tr.Moved σ (l.flatMap (·.aa)++([]:List Nat)) σ' ((l.take i++l.drop (i+1)).flatMap (·.aa))/\∀x∈l.take i++l.drop (i+1),Tr.ft σ' x:=by
 obtain⟨a,b,oL,ha⟩:∃a b,l=a++(old::b)/\a=l.take i/\b=l.drop (i+1):=⟨l.take i,l.drop (i+1),by rw[ho,<-abP hi,abm],rfl,rfl⟩;rw[<-ha.1,<-ha.2];clear ha ho;subst oL;have AU:((a++old::b).flatMap (·.aa)++([]:List Nat)).Perm (old.aa++(a.flatMap (·.aa)++b.flatMap (·.aa))):=by
  rw[adp,Tr.aC,abL,<-OF,<-OF];exact List.perm_append_comm.append_right _
 have jv:=AU.nodup_iff.1 cg;obtain⟨n1,n2,n3⟩:=aai.1 jv;have hR:∀n∈a.flatMap (·.aa)++b.flatMap (·.aa),σ n≠none:=fun n hn=>by
  rcases AT.1 hn with hn|hn
  ·obtain⟨x,hx,hn⟩:=abp.1 hn
   exact((hl x (by simp[hx])).mem n hn).2.2
  ·obtain⟨x,hx,hn⟩:=abp.1 hn
   exact((hl x (by simp[hx])).mem n hn).2.2
 have hd:∀n∈a.flatMap (·.aa)++b.flatMap (·.aa),n∉old.aa:=fun n hn ho=>n3 n ho n hn rfl;have bZ:=hm.frame hR n2 hd;have iy:=hm.same hR hd;refine⟨bZ.perm AU.symm (by rw[adn,Tr.aC]),fun x hx=> ?_⟩;rcases AT.1 hx with hx|hx
 ·exact(hl x (by simp[hx])).congr fun n hn=>iy n (AT.2 (.inl (abp.2 ⟨x,hx,hn⟩)))
 ·exact(hl x (by simp[hx])).congr fun n hn=>iy n (AT.2 (.inr (abp.2 ⟨x,hx,hn⟩)))
end Tr
theorem Hs{p:aA}(hp:dc p){w0:AI}{S0:List Nat}{σ0:ag}{kb pb:Nat}(key:ByteArray)(hk:Bk w0 kb 9 #[.string key])(Ef:Bk w0 pb 168 #[.iface p.T p.v])
  (hkS:kb∉S0) (Mw:pb∉S0):pL p 201 #[.pointer (some ⟨kb,0,none⟩),.pointer (some ⟨pb,0,none⟩)] w0 S0 σ0 [] true key (Tr.eL key):=by
 refine⟨fun args W=>call201 args W,?_⟩;intro w S σ k l A c B h0 h1 cL IQ oM fi cg hX au Y9 oj hB CW;have ko:=h0.bk hk hkS;have lR:=h0.bk Ef Mw;have gT:=ko.cell 0;have Qz:w.cell? ⟨kb,0,none⟩=some (.string key):=ko.cell 0;have bc:=au.as;have pM:=sh (show Calls prog 106 #[.slice A l.length c,.string key] w (fun e w'=>e= .returned (.tuple #[.int .i64 (Tr.dR l key:Nat),.bool (Tr.lI l key)])/\No w.heap.size w w') from xc ⟨A,l.length,c⟩ (l.map (fun x:En=>x.cell)) key _ w bc (by rw[aae];omega));have qo:=Tr.uw l key;have dC:c<=9223372036854775807:=by have:=bc.2.2.1;simp only at this;unfold maxLen at this;omega
 have FA:=sh cL;have eJ:=sh au;have Pw:=sh fi;have si:=sh cg;have CI:=sh oj;have HK:=sh ko;have HP:=sh lR;have lk:=ko.lt;have hh:Tr.lI l key=true:=Tr.U1 IQ (oM rfl);obtain⟨hi,kp⟩:=Tr.PY hh;rw[hh]at pM;obtain⟨i,Vr⟩:∃i,i=Tr.dR l key:=⟨_,rfl⟩;rw[<-Vr]at pM kp qo;have uU:i<l.length:=by rw[Vr];exact hi
 obtain⟨g,rfl,-⟩:=au.full (by rw[aae];omega);have sw:g∉S:=oj g rfl;have pH:g<w.heap.size:=(abr au g rfl).2;obtain⟨b9,o9,uQ,-,q0,q1,q2,q3,q4⟩:=bc.at i (by rw[aae];exact uU);simp only[acI,Addr.mk.injEq,and_true]at uQ;obtain⟨rfl,rfl⟩:=uQ;obtain⟨old,hold⟩:∃x,x=l[i]:=⟨_,rfl⟩;simp only[List.getElem_map,abU]at q0 q1 q2 q3 q4;rw[<-hold]at q0 q1 q2 q3 q4;have VS:pb∉S:=fun hs=>by
  rcases h1 pb hs with h9|h9
  ·exact Mw h9
  ·have:=Ef.lt;omega
 have Mo:old.aa.Nodup:=by
  have h9:=(aai.1 cg).1;have e9:l=l.take i++(old::l.drop (i+1)):=by rw[hold,<-abP uU,abm]
  rw[e9,Tr.aC,abL]at h9;exact(aai.1 (aai.1 h9).2.1).1
 have HRL:=sh fun(W:AI) (hb:No w.heap.size w W)=>(show Calls prog 108 #[.iface p.T p.v,.agg #[.string old.cell.key,.string old.cell.val,.int .i64 old.cell.over,.int .i64 old.cell.size,.int .i64 old.cell.child]] W (fun x w'=>x= .returned (.int .i64 0)/\Hid (Rel p S σ k old.aa W w')) from (ug hp (hp.below cL hb) old (fi old (by rw[hold];exact List.getElem_mem uU)) Mo).mono fun x w' h=>⟨h.1,sh h.2⟩);have pO:=sh kp;have fZ:=sh hold;have bH:=sh (show ∀W:AI,ah S w W->W.cell? ⟨pb,0,none⟩=some (.iface p.T p.v)/\W.cell? ⟨g,i*5,none⟩=some (.string old.cell.key)/\W.cell? ⟨g,i*5+1,none⟩=some (.string old.cell.val)/\W.cell? ⟨g,i*5+2,none⟩=some (.int .i64 old.cell.over)/\W.cell? ⟨g,i*5+3,none⟩=some (.int .i64 old.cell.size)/\W.cell? ⟨g,i*5+4,none⟩=some (.int .i64 old.cell.child) from fun W hb=>
  ⟨(hb.cell (p:=⟨pb,0,none⟩) lR.lt VS).trans (lR.cell 0),(hb.cell (p:=⟨g,_,none⟩) pH sw).trans q0,(hb.cell (p:=⟨g,_,none⟩) pH sw).trans q1,(hb.cell (p:=⟨g,_,none⟩) pH sw).trans q2,(hb.cell (p:=⟨g,_,none⟩) pH sw).trans q3,(hb.cell (p:=⟨g,_,none⟩) pH sw).trans q4⟩)
 have lp:=lR.lt;clear ko lR gT bc cL au fi cg oj hh Vr hX hk Ef hi kp q0 q1 q2 q3 q4 Mo hold IQ oM;go_enter func201,ntmps201
 go_wp2_with fail
 refine pM.out.mono ?_;rintro x w1 ⟨rfl,ar⟩;have bh:=sh ar;have iN:=sh ((ah.ae ar S).drew);have KK:=sh (HRL.out w1.drew ar.drew);have Kg:g<w1.heap.size:=aaf pH ar.size;have AU:pb<w1.heap.size:=aaf lp ar.size;clear ar;go_wp2_with fail
 go_region_held3 (fun W=>W.cell? ⟨pb,0,none⟩=some (.iface p.T p.v)/\W.cell? ⟨g,i*5,none⟩=some (.string old.cell.key)/\W.cell? ⟨g,i*5+1,none⟩=some (.string old.cell.val)/\W.cell? ⟨g,i*5+2,none⟩=some (.int .i64 old.cell.over)/\W.cell? ⟨g,i*5+3,none⟩=some (.int .i64 old.cell.size)/\W.cell? ⟨g,i*5+4,none⟩=some (.int .i64 old.cell.child)) (first|(with_reducible exact bH.out _ iN.out)|(with_reducible exact bH.out _ (iN.out.trans (Rel.off om.out)))) (first
  | (go_at_call 108;(with_reducible refine KK.out.mono ?_);rintro x w2 ⟨rfl,om⟩))
 all_goals
  obtain⟨σ',⟨S2,gB,dg,fD⟩,tC⟩:=om.out;have bG:ah S w w2:=iN.out.trans dg;have bf:aZ w2 B (.slice (some ⟨g,0,none⟩) (l.map (·.cell)).length c) (l.map (·.cell)):=by
   rw[aae];exact ah.own bG eJ.out CI.out
  have HDE:=sh (DH g B i c (l.map (·.cell)) w2 bf (by rw[aae];exact uU) (by rw[aae];omega));rw[aae]at HDE;have sG:=sh gB;have mS:=sh bG;have lj:=sh (show aj w S S2 from fD.mono bh.out.size);have G6:=sh tC;clear gB dg fD tC bG bf om;have IB:g∉S2:=fun hs=>by
   rcases lj.out g hs with h9|h9
   ·exact sw h9
   ·omega
  have hgB:B<=g:=(abr eJ.out g rfl).1;have Eh:=Tr.ye uU fZ.out Pw.out si.out G6.out;rw[<-pO.out]at Eh;have AH:(Tr.eL key l).length=l.length-1:=by rw[pO.out,BY,abv,abS];omega
  have AK:(Tr.eL key l).map (·.cell)=(l.map (·.cell)).take i++(l.map (·.cell)).drop (i+1):=by rw[pO.out,abH,List.map_take,List.map_drop]
  have KM:=sh Eh;have T9:=sh AH;have HMP:=sh AK;clear Eh AH AK;go_wp2_with fail
  refine HDE.out.mono ?_;rintro x w3 ⟨rfl,aw,eA⟩;have bV:=sh (show xH p S σ k B [] l (Tr.eL key l) w (.returned (.tuple #[.slice (some ⟨g,0,none⟩) (l.length-1) c,.int .i64 0])) w3 from by
   refine⟨some ⟨g,0,none⟩,c,σ',S2,g::S,by rw[T9.out],?_,KM.out.1,KM.out.2,hp.off sG.out eA (fun b hb hg=> ?_),?_,fun x hx=> ?_,lj.out⟩
   ·rw[T9.out,HMP.out]
    have h9:=aw.here IB
    rwa [aae]at h9
   ·rw[By]at hg
    subst hg;exact IB hb
   ·exact(mS.out.mono (fun x hx=> .inl (by simp[hx]))).then eA (fun x hx=> .inl (by rw[By]at hx;simp[hx]))
   ·rcases IT.1 hx with rfl|hx
    ·exact .inr hgB
    ·exact .inl hx)
  clear aw eA;go_wp2_with fail
  go_ret2
  exact bV.out
theorem aX.two{p:aA}{S:List Nat}{σ :ag}{k c:Nat}{Q:List Nat}{L:List En}{w:AI}{e:Ending}{w':AI}(h:kc p S σ k c Q L w e w'):
  (∃a:Int,e= .returned (.tuple #[.int .i64 a,.int .i64 0])/\Hid (kc p S σ k c Q L w (.returned (.tuple #[.int .i64 a,.int .i64 0])) w'))\/(e= .returned (.tuple #[.int .i64 0,.int .i64 9])/\Hid (kc p S σ k c Q L w (.returned (.tuple #[.int .i64 0,.int .i64 9])) w')):=by
 rcases h with⟨root,P',σ',S',k',rfl,h1⟩|⟨hF,rfl,h1⟩
 ·exact .inl ⟨root,rfl,sh (.inl ⟨root,P',σ',S',k',rfl,h1⟩)⟩
 ·exact .inr ⟨rfl,sh (.inr ⟨hF,rfl,h1⟩)⟩
def jG (p:aA) (S:List Nat) (σ :ag) (k c root:Nat) (P:List Nat) (L:List En) (key:ByteArray) (w:AI) (e:Ending) (w':AI):Prop:=
 ((∃x∈L,x.cell.key=key)/\∃a b:Int,e= .returned (.tuple #[.int .i64 a,.bool (b==0),.int .i64 b])/\kc p S σ k c P (Tr.eL key L) w (.returned (.tuple #[.int .i64 a,.int .i64 b])) w')\/
 ((∀x∈L,x.cell.key≠key)/\e= .returned (.tuple #[.int .i64 root,.bool false,.int .i64 0])/\No w.heap.size w w')
theorem FT{p:aA}(hp:dc p){w:AI}{S:List Nat}{σ :ag}{k:Nat}(h:p.At w S σ k)(root:Nat){P:List Nat}{L:List En}{c0:Nat}(uZ:Tr.fa σ c0 root P L)(cg:P.Nodup)(key:ByteArray)(hk:p.F\/c0<=k):
  Calls prog 143 #[.iface p.T p.v,.int .i64 root,.string key] w (jG p S σ k c0 root P L key w):=by
 have kI:No w.heap.size w ((w.alloc (.cells #[.iface p.T p.v] 168)).alloc (.cells #[.string key] 9)):=((Below.refl _ w).alloc (AS _) _).alloc (by simp) _;have HF:=sh (Ab hp.toReads (hp.below h kI) root (uZ.root.deep cg) key);have HA:=sh h;have J9:=sh uZ;have fZ:=sh (hp.old h);have si:=sh cg;have HK:=sh hk;have kR:=sh kI;clear h uZ cg hk kI;go_enter func143,ntmps143
 go_wp2_with fail
 refine HF.out.mono ?_;rintro e w1 ⟨ar,v,rfl,hv⟩;have Zv:No w.heap.size w w1:=kR.out.trans (ar.mono kR.out.size);have OJ:=sh (af (show Bk ((w.alloc (.cells #[.iface p.T p.v] 168)).alloc (.cells #[.string key] 9)) (w.heap.size+1) 9 #[.string key] from by have h:=Bk.new (w.alloc (.cells #[.iface p.T p.v] 168)) 9 #[.string key];simpa using h) ar);have OM:=sh (af ((Bk.new w 168 #[.iface p.T p.v]).alloc (.cells #[.string key] 9)) ar);have pK:w.heap.size+2<=w1.heap.size:=by have:=ar.size;simp at this;omega
 have l0:w.heap.size<w1.heap.size:=by omega
 have l1:w.heap.size+1<w1.heap.size:=by omega
 have k0:=OJ.out.cell 0;have p0:=OM.out.cell 0;have XL:=sh Zv;clear ar Zv;rcases hv with⟨x,hx,Bj,rfl⟩|⟨iP,rfl⟩
 ·obtain⟨y,hy⟩:∃y,y=x.cell:=⟨_,rfl⟩
  rw[<-hy];have az:No w.heap.size w (w1.alloc (.cells #[.string y.key,.string y.val,.int .i64 y.over,.int .i64 y.size,.int .i64 y.child] 170)):=XL.out.alloc (by omega) _;have oj:∀q,(q=w.heap.size\/q=w.heap.size+1)->q∉S:=fun q hq hs=>by
   have:=fZ.out q hs;omega
  have yq:=Hs hp (S0:=S) (σ0:= σ) key (OJ.out.alloc (.cells #[.string y.key,.string y.val,.int .i64 y.over,.int .i64 y.size,.int .i64 y.child] 170)) (OM.out.alloc _) (oj _ (.inr rfl)) (oj _ (.inl rfl));have Xe:=v8 hp key (Tr.DG key) yq (hp.below HA.out az) (ah.refl _ _) (aj.refl _ _) root J9.out (by rw[adp];exact si.out) (fun n hn=>by cases hn) (fun _=>⟨x,hx,Bj⟩) HK.out;rw[adp]at Xe;have OH:=sh (Xe.mono fun e w' h=>aX.two h);have G0:=sh (show ah S w (w1.alloc (.cells #[.string y.key,.string y.val,.int .i64 y.over,.int .i64 y.size,.int .i64 y.child] 170)) from ah.ae az S);have HX:=sh (show ∃x∈L,x.cell.key=key from ⟨x,hx,Bj⟩);have zx:=sh (show Tr.aE 0 σ P σ P from Tr.aE.refl (fun n hn=>by rcases J9.out with⟨rfl,rfl,rfl,-⟩|⟨d,bm,-⟩;cases hn;exact(bm.mem n hn).2.2) si.out);clear hx Bj hy az oj yq Xe;go_wp2_with fail
  refine OH.out.mono ?_;rintro e w5 (⟨a,rfl,oS⟩|⟨rfl,oS⟩)
  ·have HE:=sh (show jG p S σ k c0 root P L key w (.returned (.tuple #[.int .i64 a,.bool true,.int .i64 0])) w5 from .inl ⟨HX.out,a,0,rfl,(aX.from (c1:=0) zx.out (by omega) G0.out (aj.refl _ _) oS.out).more (by omega) (by omega)⟩)
   clear oS;go_wp2_with fail
   go_ret3
   exact HE.out
  ·have HE:=sh (show jG p S σ k c0 root P L key w (.returned (.tuple #[.int .i64 0,.bool false,.int .i64 9])) w5 from .inl ⟨HX.out,0,9,rfl,(aX.from (c1:=0) zx.out (by omega) G0.out (aj.refl _ _) oS.out).more (by omega) (by omega)⟩)
   clear oS;go_wp2_with fail
   go_ret3
   exact HE.out
 ·have HE:=sh (show ∀w5,No w.heap.size w w5->jG p S σ k c0 root P L key w (.returned (.tuple #[.int .i64 root,.bool false,.int .i64 0])) w5 from fun w5 h=> .inr ⟨iP,rfl,h⟩)
  clear iP;go_wp2_with fail
  go_ret3
  exact HE.out _ (XL.out.alloc (by omega) _)
namespace Tr
theorem RA{key:ByteArray}{b:List En}(r2:bB b)(h2:∀y t,b=y::t->Nd.lt y.cell.key key=false)(y:En):y∈rest key b↔y∈b/\y.cell.key≠key:=by
 have bL:∀ {c d:ByteArray},Nd.lt c d=true->c≠d:=fun h e=>by subst e;have:=Nd.lt_asymm h;rw[h]at this;cases this
 have hg:=pq r2 h2;refine⟨fun h=>⟨pr key b y h,fun e=>bL (hg y h) e.symm⟩,fun⟨h,hk⟩=> ?_⟩;cases b with
 | nil=>cases h
 | cons z t=>
  simp only[rest];split
  ·next hz=>
   rcases IT.1 h with rfl|h
   ·exact absurd (Nd.gx (by simpa using hz)) hk
   ·exact h
  ·exact h
theorem oF{key:ByteArray}{l:List En}(hr:bB l)(x:En):x∈eL key l↔x∈l/\x.cell.key≠key:=by
 obtain⟨a,b,rfl,h1,h2⟩:=bj key l;rw[de a b key h1 h2];obtain⟨r1,r2,r3⟩:=eZ hr;have bL:∀ {c d:ByteArray},Nd.lt c d=true->c≠d:=fun h e=>by subst e;have:=Nd.lt_asymm h;rw[h]at this;cases this
 rw[AT,AT,RA r2 h2];constructor
 ·rintro(h|h)
  ·exact⟨.inl h,bL (h1 x h)⟩
  ·exact⟨.inr h.1,h.2⟩
 ·rintro⟨h|h,hk⟩
  ·exact .inl h
  ·exact .inr ⟨h,hk⟩
theorem LB(key:ByteArray)(l:List En):(eL key l).length<=l.length:=by
 unfold eL;rw[BY,abv,abS];split<;>omega
end Tr
theorem bF.del{L:List En}(hr:Tr.bB L)(key m:ByteArray)(r:Nat):bF (Tr.eL key L) m r↔if m=key then r=0 else bF L m r:=by
 have hm:=Tr.oF (key:=key) hr;split
 ·next h=>
  subst h;constructor
  ·rintro(⟨x,hx,hk,rfl⟩|⟨-,rfl⟩)
   ·exact absurd hk ((hm x).1 hx).2
   ·rfl
  ·rintro rfl
   exact .inr ⟨fun x hx hk=>((hm x).1 hx).2 hk,rfl⟩
 ·next h=>
  constructor
  ·rintro(⟨x,hx,hk,rfl⟩|⟨h2,rfl⟩)
   ·exact .inl ⟨x,((hm x).1 hx).1,hk,rfl⟩
   ·refine .inr ⟨fun x hx hk=>h2 x ((hm x).2 ⟨hx,fun e=>h (hk.symm.trans e)⟩) hk,rfl⟩
  ·rintro(⟨x,hx,hk,rfl⟩|⟨h2,rfl⟩)
   ·exact .inl ⟨x,(hm x).2 ⟨hx,fun e=>h (hk.symm.trans e)⟩,hk,rfl⟩
   ·exact .inr ⟨fun x hx hk=>h2 x ((hm x).1 hx).1 hk,rfl⟩
theorem Fi{G:Forest}{σ σ':ag}(h:G.Ok σ){name:ByteArray}{root:Nat}{P':List Nat}(hr:G.R name=some 0)(ht:Tr.dE σ' root P' (Tr.eL name G.main.L))(hm:Tr.Moved σ G.main.P σ' P'):
  (G.tell ⟨root,P',Tr.eL name G.main.L⟩ name).Ok σ':=by
 obtain⟨e1,e2⟩:=h.law name 0 hr;have Ei:=h.main.rising;refine h.tell (t:=⟨root,P',Tr.eL name G.main.L⟩) ht hm (fun e he=>h.names e ((Tr.oF Ei e).1 he).1) name ?_ (fun m r' nQ IQ=> ?_)
 ·rw[bF.del Ei,if_pos rfl,e1]
 ·rw[bF.del Ei,if_neg nQ]
  exact IQ
theorem JM{G:Forest}{σ :ag}(h:G.Ok σ){name:ByteArray}(hr:G.R name=some 0)(iP:∀x∈G.main.L,x.cell.key≠name):(G.tell G.main name).Ok σ :=by
 obtain⟨e1,e2⟩:=h.law name 0 hr;exact h.tell h.main (Tr.Moved.refl (fun n hn=>(h.main.mem n hn).2.2) (aai.1 h.nodup).1) h.names name (by rw[<-e1];exact .inr ⟨iP,rfl⟩) (fun m r _ h=>h)
namespace Tr
def need (n:Nat):Nat:=2*Nat.log2 n+4
theorem Bt{Q:List Ce->List Nat->List En->Prop}{m:Nat}{σ :ag}{leaf:Bool}:∀(ks:List Kd),(∀k∈ks,m<=k.L.length)->m*ks.length<=(ks.flatMap (·.L)).length
 | [],_=>by simp
 | k::ks,h=>by
  have h1:=h k (by simp);have h2:=Bt (Q:=Q) (σ := σ) (leaf:=leaf) ks (fun x hx=>h x (by simp[hx]));rw[abL,BY,abB,Nat.mul_succ];omega
theorem aJ.many{σ :ag}:∀ {d no:Nat} {P:List Nat} {L:List En},aJ σ d no P L->2 ^ d<=L.length
 | 0,no,P,L,h=>by
  obtain⟨cs,P',-,-,-,-,-,-,h,-⟩:=h;cases L with
  | nil=>exact absurd rfl h
  | cons a t=>simp
 | d+1,no,P,L,h=>by
  obtain⟨cs,P',-,-,-,-,⟨ks,h1,h2,h3,h4,h5,h6⟩,-,-,h7⟩:=h;have hk:∀k∈ks,2 ^ d<=k.L.length:=fun k hk=>aJ.many (h6 k hk).2;have h8:=h7 rfl;rw[h1,aae]at h8;have h9:=Bt (Q:=fun _ _ _=>True) (σ := σ) (leaf:=true) ks hk;rw[h3,agf];exact abE (agO _ h8) h9
end Tr
theorem jd{α :Type}[DecidableEq α]:∀(l m:List α),l.Nodup->(∀x∈l,x∈m)->l.length<=m.length
 | [],m,_,_=>Nat.zero_le _
 | a::l,m,hn,h=>by
  obtain⟨h1,h2⟩:=List.nodup_cons.1 hn;have ha:=h a (by simp);have h3:=jd l (m.erase a) h2 (fun x hx=>(List.mem_erase_of_ne (fun e=>h1 (by rw[<-e];exact hx))).2 (h x (by simp[hx])));rw[List.length_erase_of_mem ha]at h3;have:=List.length_pos_of_mem ha;rw[abB];omega
theorem Tr.l9{L:List En}(h:Tr.bB L):(L.map (·.cell.key)).Nodup:=by
 unfold List.Nodup;rw[List.pairwise_map];refine h.imp fun oL e=> ?_;rw[e,Nd.lt_irrefl]at oL;cases oL
theorem Forest.Ok.qu{F:Forest}{σ :ag}(h:F.Ok σ):∀k∈F.main.L.map (·.cell.key),k∈F.NS:=by
 intro k hk;obtain⟨e,he,rfl⟩:=List.mem_map.1 hk;cases hR:F.R e.cell.key with
 | some r=>exact(h.law _ r hR).2
 | none=>
  by_cases hm:e.cell.key∈F.NS
  ·exact hm
  ·have h1:=h.yD _ hR
   rw[h.out _ hm]at h1;have h2:bF F.main.L e.cell.key (ai ⟨e.val.toArray⟩ 0 4):= .inl ⟨e,he,rfl,rfl⟩;have h3:=bF.LQ h.main.rising h2 h1;have h4:=(h.names e he).2.1;have h5:Tn.zero.root=0:=rfl;omega
theorem Forest.Ok.oZ{F:Forest}{σ :ag}(h:F.Ok σ):F.main.L.length<=F.NS.length:=by
 have h1:=jd _ F.NS (Tr.l9 h.main.rising) h.qu
 rwa [aae]at h1
namespace Tr
theorem Bs{q c:Nat}:∀(ks:List Kd),(∀k∈ks,∃m,c<=m/\q*m<=k.L.length/\k.P.length+1<=2*m+(k.L.flatMap (·.aa)).length)->
  ∃M,ks.length*c<=M/\q*M<=(ks.flatMap (·.L)).length/\(ks.flatMap (·.P)).length+ks.length<=2*M+((ks.flatMap (·.L)).flatMap (·.aa)).length
 | [],_=>⟨0,by simp,by simp,by simp⟩
 | k::ks,h=>by
  obtain⟨m,m1,m2,m3⟩:=h k (by simp);obtain⟨M,n1,n2,n3⟩:=Bs ks fun x hx=>h x (by simp[hx]);refine⟨m+M,?_,?_,?_⟩
  ·rw[abB,Nat.succ_mul];omega
  ·rw[abL,BY,Nat.mul_add];omega
  ·simp only[abL,List.flatMap_append,BY,abB]
   omega
theorem aJ.oG{σ :ag}{q:Nat}:∀ {d no:Nat} {P:List Nat} {L:List En},aJ σ d no P L->(d=0->q<=L.length)->(∀X:List En,(∀e∈X,e∈L)->122<=Nd.sum true (X.map (·.cell))->q<=X.length)->
  ∃m,2 ^ d<=m/\q*m<=L.length/\P.length+1<=2*m+(L.flatMap (·.aa)).length
 | 0,no,P,L,h,h0,hq=>by
  obtain⟨cs,P',rfl,g1,g2,g3,⟨-,rfl,-,-⟩,g5,g6,g7⟩:=h;refine⟨1,AS _,by rw[Nat.mul_one];exact h0 rfl,?_⟩;rw[abB];omega
 | d+1,no,P,L,h,h0,hq=>by
  obtain⟨cs,P',rfl,g1,g2,g3,⟨ks,fu,rfl,rfl,-,-,jb⟩,g5,g6,g7⟩:=h;have h2:=g7 rfl;rw[fu,aae]at h2;have dv:∀k∈ks,∀X:List En,(∀e∈X,e∈k.L)->122<=Nd.sum true (X.map (·.cell))->q<=X.length:=fun k hk X hX hs=>hq X (fun e he=>abp.2 ⟨k,hk,hX e he⟩) hs;obtain⟨M,n1,n2,n3⟩:=Bs (q:=q) (c:=2 ^ d) ks fun k hk=>aJ.oG (jb k hk).2 (fun hd=>dv k hk k.L (fun e he=>he) ((jb k hk).1.2 hd)) (dv k hk);have h3:=Nat.mul_le_mul_right (2 ^ d) h2;refine⟨M,?_,n2,?_⟩
  ·rw[agf,Nat.mul_comm];omega
  ·rw[abB];omega
theorem qF(s:Nat):∀(X:List En),(∀e∈X,Nd.size true e.cell<=s)->Nd.sum true (X.map (·.cell))<=2+s*X.length
 | [],_=>by simp[Nd.sum]
 | e::X,h=>by
  have h1:=qF s X fun x hx=>h x (by simp[hx]);have h2:=h e (by simp);rw[List.map_cons,Nd.sum_cons,abB,Nat.mul_succ];omega
theorem uc(p:Nat):∀(L:List En),(∀e∈L,e.aa.length<=p)->(L.flatMap (·.aa)).length<=p*L.length
 | [],_=>by simp
 | e::L,h=>by
  have h1:=uc p L fun x hx=>h x (by simp[hx]);have h2:=h e (by simp);rw[abL,BY,abB,Nat.mul_succ];omega
theorem dE.oG{σ :ag}{root:Nat}{P:List Nat}{L:List En}(h:dE σ root P L){s n p q M c:Nat}(hs:∀e∈L,Nd.size true e.cell<=s)(hn:L.length<=n)(hp:∀e∈L,e.aa.length<=p)
  (hq:∀l,122<=2+s*l->q<=l) (hM:∀m,q*m<=n->m<=M) (hM1:1<=M) (hc:∀d,2 ^ d<=M->2*d+4<=c):fa σ c root P L/\P.length+1<=2*M+p*n:=by
 have mG:(L.flatMap (·.aa)).length<=p*n:=abE (uc p L hp) (agO _ hn);have Av:=hc 0 (by simpa using hM1);rcases h with⟨rfl,rfl,rfl⟩|⟨d,h⟩
 ·exact⟨.inl ⟨rfl,rfl,rfl,by omega⟩,by simp;omega⟩
 ·cases d with
  | zero=>
   refine⟨.inr ⟨0,h,Av⟩,?_⟩;obtain⟨cs,P',rfl,g1,g2,g3,⟨-,rfl,-,-⟩,g5,g6,g7⟩:=h;rw[abB];omega
  | succ d=>
   obtain⟨m,m1,m2,m3⟩:=h.oG (q:=q) (fun hd=>by cases hd) (fun X hX aex=>hq _ (abE aex (qF s X fun e he=>hs e (hX e he))));have hmM:=hM m (abE m2 hn);exact⟨.inr ⟨d+1,h,hc _ (abE m1 hmM)⟩,by omega⟩
theorem ft.short{σ :ag}{e:En}(h:ft σ e)(hn:e.val.length=4):e.aa=[]:=by
 rcases h.2 with⟨-,h2,-⟩|⟨h1,-,h3⟩
 ·exact h2
 ·have h4:=h.1
  unfold Nd.aY at h4;rw[if_neg h1]at h4;simp at h4;omega
end Tr
namespace Fr
theorem Cq{u:Nat}:∀(l:List (Nat×Nat)),Sorted l->(l.takeWhile fun y=>decide (y.1<=u)).length=(l.filter fun y=>decide (y.1<u+1)).length
 | [],_=>rfl
 | a::l,h=>by
  obtain⟨h1,h2⟩:=adf.1 h;by_cases ha:a.1<=u
  ·rw[aeC,if_pos (by simpa using ha),List.filter_cons_of_pos (by simp;omega),abB,abB,Cq l h2]
  ·rw[aeC,if_neg (by simpa using ha),List.filter_cons_of_neg (by simp;omega)]
   have:l.filter (fun y=>decide (y.1<u+1))=[]:=List.filter_eq_nil_iff.2 fun y hy=>by
    have:=lt_iff.1 (h1 y hy);simp;omega
   rw[this]
end Fr
namespace Tr
def FG (σ :ag) (P:List Nat) (L:List En) (Lf Br:List Nat):Prop:=∀n∈P,n∈Br\/(pQ σ n/\n∈Lf)\/∃e∈L,n∈e.aa
theorem tP{σ :ag}:∀(ks:List Kd),(∀k∈ks,∃Lf Br:List Nat,Br.length+1<=Lf.length/\Lf.length<=k.L.length/\FG σ k.P k.L Lf Br)->
  ∃Lf Br:List Nat,Br.length+ks.length<=Lf.length/\Lf.length<=(ks.flatMap (·.L)).length/\FG σ (ks.flatMap (·.P)) (ks.flatMap (·.L)) Lf Br
 | [],_=>⟨[],[],by simp,by simp,fun n hn=>by simp at hn⟩
 | k::ks,h=>by
  obtain⟨Lf,Br,m1,m2,m3⟩:=h k (by simp);obtain⟨Lf',Br',n1,n2,n3⟩:=tP ks fun x hx=>h x (by simp[hx]);refine⟨Lf++Lf',Br++Br',?_,?_,fun n hn=> ?_⟩
  ·simp only[BY,abB];omega
  ·simp only[BY,abL];omega
  ·rw[abL]at hn
   rcases AT.1 hn with hn|hn
   ·rcases m3 n hn with h9|⟨h8,h9⟩|⟨e,he,h9⟩
    ·exact .inl (by simp[h9])
    ·exact .inr (.inl ⟨h8,by simp[h9]⟩)
    ·exact .inr (.inr ⟨e,by rw[abL];simp[he],h9⟩)
   ·rcases n3 n hn with h9|⟨h8,h9⟩|⟨e,he,h9⟩
    ·exact .inl (by simp[h9])
    ·exact .inr (.inl ⟨h8,by simp[h9]⟩)
    ·exact .inr (.inr ⟨e,by rw[abL];exact AT.2 (.inr he),h9⟩)
theorem aJ.kinds{σ :ag}:∀ {d no:Nat} {P:List Nat} {L:List En},aJ σ d no P L->∃Lf Br:List Nat,Br.length+1<=Lf.length/\Lf.length<=L.length/\FG σ P L Lf Br
 | 0,no,P,L,h=>by
  obtain⟨cs,P',rfl,g1,g2,g3,⟨-,rfl,-,-⟩,g5,g6,g7⟩:=h;refine⟨[no],[],by simp,?_,fun n hn=> ?_⟩
  ·have:=acU.2 g6
   show 1<=_;omega
  ·rcases IT.1 hn with rfl|hn
   ·exact .inr (.inl ⟨⟨_,g3⟩,by simp⟩)
   ·exact .inr (.inr (abp.1 hn))
 | d+1,no,P,L,h=>by
  obtain⟨cs,P',rfl,g1,g2,g3,⟨ks,fu,rfl,rfl,-,-,jb⟩,g5,g6,g7⟩:=h;have h2:=g7 rfl;rw[fu,aae]at h2;obtain⟨Lf,Br,n1,n2,n3⟩:=tP ks fun k hk=>aJ.kinds (jb k hk).2;refine⟨Lf,no::Br,by rw[abB];omega,n2,fun n hn=> ?_⟩;rcases IT.1 hn with rfl|hn
  ·exact .inl (by simp)
  ·exact(n3 n hn).imp (fun h9=>ace _ h9) id
theorem dE.kinds{σ :ag}{root:Nat}{P:List Nat}{L:List En}(h:dE σ root P L):∃Lf Br:List Nat,Br.length<=L.length/\Lf.length<=L.length/\FG σ P L Lf Br:=by
 rcases h with⟨rfl,rfl,rfl⟩|⟨d,h⟩
 ·exact⟨[],[],by simp,by simp,fun n hn=>by cases hn⟩
 ·obtain⟨Lf,Br,n1,n2,n3⟩:=h.kinds
  exact⟨Lf,Br,by omega,n2,n3⟩
theorem dE.size{σ :ag}{root:Nat}{P:List Nat}{L:List En}(h:dE σ root P L):P.length<=2*L.length+(L.flatMap (·.aa)).length:=by
 rcases h with⟨rfl,rfl,rfl⟩|⟨d,h⟩
 ·simp
 ·have hL:=acU.2 h.ne
  obtain⟨m,m1,m2,m3⟩:=h.oG (q:=1) (fun _=>by omega) (fun X _ hs=>by
   cases X with
   | nil=>simp[Nd.sum]at hs
   | cons a t=>simp)
  omega
theorem dE.UN{σ :ag}{root:Nat}{P:List Nat}{L:List En}(h:dE σ root P L)(hl:L.length<=31):fa σ 12 root P L:=by
 rcases h with⟨h1,h2,h3⟩|⟨d,h⟩
 ·exact .inl ⟨h1,h2,h3,by omega⟩
 ·refine .inr ⟨d,h,?_⟩
  have h1:=h.many;by_cases hd:d<=4
  ·omega
  ·have:=Nat.pow_le_pow_right (n:=2) (by omega) (show 5<=d by omega)
   omega
theorem Part.inner{σ :ag}:∀ {d:Nat} {cs:List Ce} {P:List Nat} {L:List En},Part σ d cs P L->∀e∈L,∀n∈e.aa,n∈P
 | 0,cs,P,L,⟨h1,h2,h3,h4⟩,e,he,n,hn=>by rw[h2];exact abp.2 ⟨e,he,hn⟩
 | d+1,cs,P,L,⟨ks,h1,h2,h3,h4,h5,h6⟩,e,he,n,hn=>by
  rw[h3]at he;obtain⟨k,hk,he⟩:=abp.1 he;rw[h2];refine abp.2 ⟨k,hk,?_⟩;obtain⟨zQ,P',hP,g1,g2,g3,g4,-⟩:=(h6 k hk).2;rw[hP];exact ace _ (Part.inner g4 e he n hn)
theorem dE.inner{σ :ag}{root:Nat}{P:List Nat}{L:List En}(h:dE σ root P L):∀e∈L,∀n∈e.aa,n∈P:=by
 rcases h with⟨rfl,rfl,rfl⟩|⟨d,cs,P',rfl,g1,g2,g3,g4,-⟩
 ·intro e he;cases he
 ·exact fun e he n hn=>ace _ (g4.inner e he n hn)
end Tr
theorem Forest.Ok.apart{F:Forest}{σ :ag}(h:F.Ok σ){n m:ByteArray}(qj:m≠n){x:Nat}(hx:x∈(F.tr m).P):x∉(F.tr n).P:=by
 by_cases hn:n∈F.NS
 ·obtain⟨a,b,oL,ha,hb,hp⟩:=h.split hn
  have cg:=(aai.1 (hp.nodup_iff.1 h.nodup)).2.2;intro We;refine cg x We x ?_ rfl;have hm:m∈F.NS:=by
   by_cases hc:m∈F.NS
   ·exact hc
   ·rw[h.out m hc]at hx;cases hx
  rw[oL,AT,IT]at hm;simp only[AT];rcases hm with hm|hm|hm
  ·exact .inr (.inl (abp.2 ⟨m,hm,hx⟩))
  ·exact absurd hm qj
  ·exact .inr (.inr (abp.2 ⟨m,hm,hx⟩))
 ·rw[h.out n hn]
  exact fun hc=>by cases hc
theorem Forest.Ok.BC{F:Forest}{σ :ag}(h:F.Ok σ)(hn:F.NS.length<=2):F.main.P.length<=1/\Tr.fa σ 4 F.main.root F.main.P F.main.L:=by
 have h1:=h.oZ;have cZ:∀e∈F.main.L,Nd.size true e.cell<=43:=fun e he=>by
  have h2:=(h.main.nE e he);have h3:=h.valid e.cell.key (h.qu _ (List.mem_map_of_mem he));have h4:=(h.names e he).1;have h5:e.cell.over=0:=by
   rcases h2.2 with⟨h6,-,-⟩|⟨h6,-,h7⟩
   ·exact h6
   ·have h8:=h2.1
    unfold Nd.aY at h8;rw[if_neg h6]at h8;simp at h8;omega
  have h6:e.cell.val.size=4:=by
   rcases h2.2 with⟨-,-,h7⟩|⟨h7,-,-⟩
   ·rw[h7]at h4;exact h4
   ·exact absurd h5 h7
  have h7:=h3.2;unfold Nd.size;rw[if_pos rfl,if_neg (by omega)];omega
 rcases h.main with⟨h2,h3,h4⟩|⟨d,h2⟩
 ·exact⟨by rw[h3];simp,.inl ⟨h2,h3,h4,AS _⟩⟩
 ·have hd:d=0:=by
   cases d with
   | zero=>rfl
   | succ d=>
    obtain⟨m,m1,m2,m3⟩:=h2.oG (q:=3) (fun hd=>by cases hd) (fun X hX hs=>by
     have:=Tr.qF 43 X (fun e he=>cZ e (hX e he));omega)
    have:=Nat.two_pow_pos d;rw[agf]at m1;omega
  subst hd;refine⟨?_,.inr ⟨0,h2,by omega⟩⟩;obtain⟨cs,P',hP,g1,g2,g3,⟨-,hP',-,-⟩,g5,g6,g7⟩:=h2;have h0:F.main.L.flatMap (·.aa)=[]:=List.flatMap_eq_nil_iff.2 fun e he=>(h.main.nE e he).short (h.names e he).1;rw[hP,hP',h0];simp
end Go.Proofs.YtjbcbnemdhbhbaaGreatDoor
