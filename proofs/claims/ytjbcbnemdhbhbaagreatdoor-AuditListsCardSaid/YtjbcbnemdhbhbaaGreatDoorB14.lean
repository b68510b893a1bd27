import Derived.Test.YtjbcbnemdhbhbaaGreatDoorB13
import Derived.Test.YtjbcbnemdhbhbaaGreatDoorB11
set_option maxRecDepth 100000
set_option linter.unusedVariables false
set_option linter.unusedSimpArgs false
set_option maxHeartbeats 40000000
open Array renaming getElem?_toList→acP,toList_append→afC
open Go renaming Value→IS,World→AI,info_parts→aco,maxLen→abi
open Go.IntWalk renaming i64_in→acu
open Go.Lib renaming hid→sh
open Go.Value renaming ownBlock→aaU,slice→acf
open Go.World renaming shape?→aga
open List renaming append_assoc→OF,length_append→BY,length_drop→abS,length_take→abv,take_append_drop→abm,take_append_of_le_length→adj,take_left→adG,take_take→aeh
open Nat renaming min→aez,zero_add→abU
open Option renaming mem_toList→abz
namespace Go.Proofs.YtjbcbnemdhbhbaaGreatDoor
open Go.Proofs.Tryz
open Go.RowKit
theorem tf(c:Nat×Nat):aN [c]=pF c:=by simp[aN]
def oB (B:Nat) (v:IS) (l:List (Nat×Nat)) (w:AI) (e:Ending) (w':AI):Prop:=
 ∃(S:List Nat) (A:Option Addr) (c:Nat),(∀g∈S,v.ownBlock=some g)/\ah S w w'/\e= .returned (.slice A l.length c)/\gL w' B (.slice A l.length c) l/\∀g,aaU (.slice A l.length c)=some g->v.ownBlock=some g\/w.heap.size<=g
def qt (l:List (Nat×Nat)) (i:Nat) (c:Nat×Nat):List (Nat×Nat):=l.take i++([c]++l.drop i)
theorem jQ(l:List (Nat×Nat))(i:Nat)(c:Nat×Nat)(h:i<=l.length):(qt l i c).length=l.length+1:=by
 unfold qt;rw[BY,BY,abv,abS];simp;omega
theorem Ag(A:Option Addr)(cap B b:Nat)(l:List (Nat×Nat))(c:Nat×Nat)(w:AI)(h:gL w B (.slice A l.length cap) l)(hB:B<=w.heap.size)(hl:l.length<=10000)(hc:Bk w b 62 #[.int .i64 c.1,.int .i64 c.2]):
  Calls prog 217 #[.slice A l.length cap,.int .i64 l.length,.slice (some ⟨b,0,none⟩) 1 1] w (oB B (.slice A l.length cap) (l++[c]) w):=by
 obtain⟨i0,hi,ef,dK,dY⟩:=aco mI;obtain⟨qh,-,qg,dC,-⟩:=gL.row h;have DW:cap<=9223372036854775807:=by unfold abi at dC;omega
 have HO:=sh h;have Ub:=sh (show ∀(j:Nat) (u:IS),(aN [c])[j]? =some u->w.cell? ((⟨b,0,none⟩:Addr).add j)=some u from fun j u hu=>by
  rw[bI,abU,hc.cell j,<-acP];rw[tf]at hu;exact hu)
 have gH:=hc.lt;clear h qh dC hc;go_enter func217,ntmps217
 go_wp2_with (at_builtin;refine wpList_append_lies _ rfl (.tmp 23) (.tmp 24) 49 rfl B 62 i0 _ 2 16 underlying49 hi ef dK dY rfl (by omega) (.slice A l.length cap) l.length (aN l) rfl HO.out ⟨b,0,none⟩ 1 1 (aN [c]) rfl (cH [c]) Ub.out (mB [c]) (by omega) (by unfold abi;omega) (by omega) hB w.heap.size rfl ?_;intro gg gA w3 aw aF df tB)
 all_goals
  have jZ:gL w3 B (.slice (some ⟨gg,0,none⟩) (l++[c]).length gA) (l++[c]):=by
   unfold gL;rw[fh,BY];exact aw
  have vt:∀n m,(acf A n m).ownBlock=(acf A 0 0).ownBlock:=fun n m=>by cases A<;>rfl
  rw[vt]at aF df;have bG:=(ah.refl (acf A 0 0).ownBlock.toList w).grown aF (fun g hg=> .inl (by rw[abz];exact hg));go_ret
  exact⟨_,_,gA,fun g hg=>by rw[abz]at hg;rw[vt];exact hg,bG,by rw[BY];rfl,jZ,fun g hg=>by
   have e:gg=g:=by simpa[aaU]using hg
   subst e;rw[vt];rcases df with h9|h9
   ·exact .inl h9
   ·exact .inr (by omega)⟩
theorem DR(g i n:Nat)(L:List IS)(hL:L.length=i*2)(dv:i<=n)(hn:n<=10000)(W:AI)(hW:∀j u,L[j]? =some u->W.cell? ⟨g,j,none⟩=some u):
  ∃(c:Nat) (cur:Array IS) (W1:AI),n+1<=c/\c<=abi/\cur.size=c*2/\cur.toList.take (i*2)=L/\Bk W1 W.heap.size 62 cur/\Below W.heap.size W W1/\W1.heap.size=W.heap.size+1/\
   (Builtin.append_ #[49,3] 49 #[.slice (some ⟨g,0,none⟩) i n,.int .i64 ((n:Int)+1-(i:Int))]).run prog W= .ok (.slice (some ⟨W.heap.size,0,none⟩) (n+1) c) W1:=by
 obtain⟨i0,hi,ef,dK,dY⟩:=aco mI;have he:i+(n+1-i)=n+1:=by omega
 have Iu:=nextslicecap_le_wide (need:=i+(n+1-i)) (old:=n) (by omega);have hf:=run_firstCells_some (P:=prog) W.drew 2 i ⟨g,0,none⟩ i n L hL (fun j u hu=>by rw[bI,abU];exact hW j u hu);have h:=Lib.run_append_grow_zeros (P:=prog) W 49 3 49 62 i0 _ .i64 .i64 underlying49 underlying3 hi ef (some ⟨g,0,none⟩) i n L (by rw[dK];exact hf) (n+1-i) (by omega) (by rw[dK];omega) (by omega) (by omega) (by rw[dY];omega) (by rw[dY];have:=Nat.mul_le_mul_right 16 Iu;omega);rw[he,show ((n+1-i:Nat):Int)=(n:Int)+1-(i:Int)by omega]at h;have yt:=grownCap_ge W (n+1) n 62;refine⟨_,_,_,yt,grownCap_le_maxLen W (n+1) n _ (by unfold abi;omega),?_,?_,heap_alloc_new W.drew _,(Below.refl _ W).drew.alloc (Nat.le_refl _) _,by simp,h⟩
 ·have e5:(Value.agg #[.int .i64 0,.int .i64 0]).cells.size=2:=rfl
  simp only[Array.size_append,size_zeroCells,e5,List.size_toArray,hL];omega
 ·rw[afC,afC,OF,adj (by simp[hL]),List.take_of_length_le (by simp[hL])]
theorem iY(g o rR DF:Nat)(a:Addr)(qC Cf:Nat)(cur:Array IS)(cs:List IS)(W:AI)(hg:Bk W g 62 cur)(hn:cs.length=aez qC rR*2)(A9:∀j v,cs[j]? =some v->W.cell? (a.add j)=some v)(gf:o+cs.length<=cur.size)(h1:∀v∈cs,v.oneCell'=true):
  ∃(v:IS) (W1:AI),Bk W1 g 62 (cur.toList.take o++cs++cur.toList.drop (o+cs.length)).toArray/\ah [g] W W1/\W1.heap.size=W.heap.size/\
   (Builtin.copy_ #[49,49] 3 #[.slice (some ⟨g,o,none⟩) rR DF,.slice (some a) qC Cf]).run prog W= .ok v W1:=by
 have hs:(prog.info? 62).map (·.size)=some 2:=by
  obtain⟨i0,hi,ef,dK,dY⟩:=aco mI;rw[hi];simp[dK]
 have h:=na (P:=prog) W 49 49 3 62 2 g o rR DF a qC Cf cur 62 cs underlying49 hs hg hn A9 gf h1;refine⟨_,_,setRow_heap W g cur _ _ _ hg,⟨rfl,rfl,rfl,by simp,fun k _ hk=>setRow_other W g k _ (fun e=>hk (by simp[e]))⟩,by simp,h⟩
theorem wC{W:AI}{b:Nat}{c:Nat×Nat}(hc:Bk W b 62 #[.int .i64 c.1,.int .i64 c.2]):∀j v,(pF c)[j]? =some v->W.cell? ((⟨b,0,none⟩:Addr).add j)=some v:=fun j v hv=>by
 rw[bI,abU,hc.cell j,<-acP];exact hv
theorem FY(c:Nat×Nat):∀v∈(pF c),v.oneCell'=true:=by
 intro v hv;simp[pF]at hv;rcases hv with rfl|rfl<;>rfl
theorem wU(l:List (Nat×Nat))(i:Nat)(c:Nat×Nat):aN (qt l i c)=aN (l.take i)++((pF c)++aN (l.drop i)):=by
 unfold qt;rw[fh,fh,tf]
theorem qQ{W:AI}{g i n:Nat}{l:List (Nat×Nat)}(hF:∀(j:Nat) (u:IS),(aN l)[j]? =some u->W.cell? ⟨g,j,none⟩=some u)(hi:i<=l.length):∀j v,(aN (l.drop i))[j]? =some v->W.cell? ((⟨g,i*2,none⟩:Addr).add j)=some v:=fun j v hv=>by
 rw[bI];have e:aN l=aN (l.take i)++aN (l.drop i):=by rw[<-fh,abm]
 have hl:(aN (l.take i)).length=i*2:=by rw[cH,abv];omega
 refine hF _ _ ?_;rw[e,List.getElem?_append_right (by omega),hl]
 rwa [show i*2+j-i*2=j by omega]
theorem yg(g B b i:Nat)(l:List (Nat×Nat))(c:Nat×Nat)(w:AI)(h:gL w B (.slice (some ⟨g,0,none⟩) l.length l.length) l)(hB:B<=w.heap.size)(hi:i<l.length)(hl:l.length<=10000)(hc:Bk w b 62 #[.int .i64 c.1,.int .i64 c.2]):
  Calls prog 217 #[.slice (some ⟨g,0,none⟩) l.length l.length,.int .i64 i,.slice (some ⟨b,0,none⟩) 1 1] w (oB B (.slice (some ⟨g,0,none⟩) l.length l.length) (qt l i c) w):=by
 obtain⟨qh,-,-,-,uQ,-⟩:=gL.row h;have hF:∀(j:Nat) (u:IS),(aN l)[j]? =some u->w.cell? ⟨g,j,none⟩=some u:=fun j u hu=>by
  obtain⟨b',o',hA,hb,uR⟩:=qh j u hu;injection hA with hA;injection hA with e1 e2;subst e1 e2
  rwa [abU]at uR
 have pH:g<w.heap.size:=(uQ _ rfl).2.2;have OT:=trivial;have ey:(aN (l.take i)).length=i*2:=by rw[cH,abv];omega
 have pG:(aN (l.drop i)).length=(l.length-i)*2:=by rw[cH,abS]
 obtain⟨k,cur,W1,dw,bO,dx,fE,ar,vi,pK,cm⟩:=DR g i l.length (aN (l.take i)) ey (by omega) hl w (fun j u hu=>by
  have aI:j<(aN (l.take i)).length:=(List.getElem?_eq_some_iff.1 hu).1;have:(aN l)[j]? =some u:=by
   rw[<-abm i l,fh,List.getElem?_append_left aI];exact hu
  exact hF j u this)
 obtain⟨v2,W2,az,DT,jw,lT⟩:=iY w.heap.size (i*2) (l.length+1-i) (k-i) ⟨b,0,none⟩ 1 1 cur (pF c) W1 ar (by rw[show aez 1 (l.length+1-i)=1 by show min 1 _=1;omega];rfl) (wC (af hc vi)) (by rw[dx];show i*2+2<=_;omega) (FY c);have Zd:∀(j:Nat) (u:IS),(aN l)[j]? =some u->W2.drew.cell? ⟨g,j,none⟩=some u:=fun j u hu=>(DT.cell (p:=⟨g,j,none⟩) (by show g<_;omega) (by simp;omega)).trans ((vi.cell (p:=⟨g,j,none⟩) pH).trans (hF j u hu));obtain⟨v3,W3,aQ,UU,oo,AZ⟩:=iY w.heap.size ((i+1)*2) (l.length-i) (k-(i+1)) ⟨g,i*2,none⟩ (l.length-i) (l.length-i) _ (aN (l.drop i)) W2.drew az.drew (by rw[pG,show aez (l.length-i) (l.length-i)=l.length-i by show min _ _=_;omega]) (qQ (n:=l.length) Zd (by omega)) (by simp;rw[pG,dx];show _<=_;have:(pF c).length=2:=rfl;omega) (mB _);have KN:=sh cm;have KO:=sh lT;have KP:=sh AZ;have Qz:k<=9223372036854775807:=by unfold abi at bO;omega
 have Gn:IntKind.i64.wrap ((l.length:Int)+1-(i:Int))=(l.length:Int)+1-(i:Int):=acu _ (by omega);have z1:((i:Int)==(l.length:Int))=false:=by rw[beq_eq_false_iff_ne];omega
 have z2:(i==l.length)=false:=by rw[beq_eq_false_iff_ne];omega
 have z3:¬ (k=i):=by omega
 have z4:¬ (l.length=i):=by omega
 have z5:(i:Int)<=(l.length:Int)+1:=by omega
 have z6:i<=l.length+1:=by omega
 have z7:¬ (k=i+1):=by omega
 have QU:IntKind.i64.wrap ((i:Int)+1)=(i:Int)+1:=acu _ (by omega);have z8:(i:Int)+1<=(l.length:Int)+1:=by omega
 have z9:(0:Int)<=(i:Int)+1:=by omega
 have z10:((i:Int)+1).toNat=i+1:=by omega
 have z11:i+1<=l.length+1:=by omega
 have z12:(i:Int)<=(l.length:Int):=by omega
 have bV:=sh (show gL W3 B (.slice (some ⟨w.heap.size,0,none⟩) (qt l i c).length k) (qt l i c)by
  refine⟨by rw[cH],.inr ⟨w.heap.size,k,_,rfl,hB,aQ,by rw[jQ _ _ _ (by omega)];omega,bO,?_,?_⟩⟩
  ·simp;rw[pG,dx];have:(pF c).length=2:=rfl;omega
  ·rw[wU,jQ _ _ _ (by omega)]
   have h5:(pF c).length=2:=rfl;have ht2:(cur.toList.take (i*2)++(pF c)).length=(i+1)*2:=by rw[BY,fE,ey,h5];omega
   have e1:(cur.toList.take (i*2)++(pF c)++cur.toList.drop (i*2+(pF c).length)).toArray.toList.take ((i+1)*2)=cur.toList.take (i*2)++(pF c):=by
    show List.take _ (_++_++_)=_;rw[<-ht2];exact adG
   rw[e1,fE];show List.take _ ((aN (l.take i)++(pF c)++aN (l.drop i)++_))=_;rw[show aN (l.take i)++((pF c)++aN (l.drop i))=aN (l.take i)++(pF c)++aN (l.drop i)by rw[OF]];rw[show (l.length+1)*2=(aN (l.take i)++(pF c)++aN (l.drop i)).length by rw[BY,BY,ey,h5,pG];omega];exact adG)
 have nk:=sh (show ah [] w W3 from (((ah.ae vi []).then DT (fun x hx=> .inr (by simp at hx;omega))).drew).then UU (fun x hx=> .inr (by simp at hx;omega)));clear h qh hF OT cm lT AZ bO dx fE hc ar az aQ DT UU Zd ey pG vi pK jw oo;go_enter func217,ntmps217
 go_upto_region 10 with(at_builtin;refine wpList_append_run rfl (.tmp 34) (.tmp 39) 49 3 rfl _ _ _ _ rfl rfl KN.out ?_)
 go_upto_region 11 with(refine bU (o:=⟨some 45,_,_,_,_,_⟩) rfl (.tmp 43) (.tmp 44) 49 49 rfl _ _ _ _ rfl rfl KO.out ?_)
 go_still_tail 8,(by kernel_rfl)
 change wpList _ _ _ _ _ W2.drew
 refine bU rfl (.tmp 50) (.tmp 53) 49 49 rfl _ _ _ _ rfl rfl KP.out ?_;go_wp2_with fail
 go_ret
 exact⟨[],_,k,by simp,nk.out,by rw[jQ _ _ _ (by omega)];rfl,bV.out,fun x hx=> .inr (Nat.le_of_eq (by simpa[aaU]using hx))⟩
theorem vh(g B b i cap:Nat)(l:List (Nat×Nat))(c:Nat×Nat)(w:AI)(h:gL w B (.slice (some ⟨g,0,none⟩) l.length cap) l)(hB:B<=w.heap.size)(hi:i<l.length)(rW:l.length<cap)(hl:l.length<=10000)(hc:Bk w b 62 #[.int .i64 c.1,.int .i64 c.2])(Qw:g≠b):
  Calls prog 217 #[.slice (some ⟨g,0,none⟩) l.length cap,.int .i64 i,.slice (some ⟨b,0,none⟩) 1 1] w (oB B (.slice (some ⟨g,0,none⟩) l.length cap) (qt l i c) w):=by
 have hF:∀(j:Nat) (u:IS),(aN l)[j]? =some u->w.cell? ⟨g,j,none⟩=some u:=fun j u hu=>by
  obtain⟨b',o',hA,hb,uR⟩:=(gL.row h).1 j u hu;injection hA with hA;injection hA with e1 e2;subst e1 e2
  rwa [abU]at uR
 have ey:(aN (l.take i)).length=i*2:=by rw[cH,abv];omega
 have pG:(aN (l.drop i)).length=(l.length-i)*2:=by rw[cH,abS]
 obtain⟨-,qU⟩:=id h;rcases qU with⟨h0,-⟩|⟨g',DA,cur,h0,W9,aU,oh,dC,fu,cW⟩
 ·cases h0
 injection h0 with e1 e2 e3;injection e1 with e1;injection e1 with e1 _;subst e1 e3;clear e2;have pH:=lt_of_block aU;have h5:(pF c).length=2:=rfl;have gT:(aN l).length=l.length*2:=cH l;obtain⟨v1,W1,ar,OR,pK,AY⟩:=iY g ((i+1)*2) (l.length-i) (cap-(i+1)) ⟨g,i*2,none⟩ (l.length+1-i) (cap-i) cur (aN (l.drop i)) w.drew (Bk.drew aU) (by rw[pG,show aez (l.length+1-i) (l.length-i)=l.length-i by show min _ _=_;omega]) (qQ (n:=l.length) (W:=w.drew) hF (by omega)) (by rw[pG,fu];omega) (mB _);obtain⟨v2,W2,az,DT,jw,lT⟩:=iY g (i*2) (l.length+1-i) (cap-i) ⟨b,0,none⟩ 1 1 _ (pF c) W1 ar (by rw[show aez 1 (l.length+1-i)=1 by show min 1 _=1;omega];rfl) (wC (OR.bk hc.drew (by simp;exact fun e=>Qw e.symm))) (by simp;rw[pG,fu,h5];omega) (FY c);have bV:=sh (show gL W2 B (.slice (some ⟨g,0,none⟩) (qt l i c).length cap) (qt l i c)by
  refine⟨by rw[cH],.inr ⟨g,cap,_,rfl,W9,az,by rw[jQ _ _ _ (by omega)];omega,dC,?_,?_⟩⟩
  ·simp;rw[pG,fu,h5];omega
  ·rw[wU,jQ _ _ _ (by omega)]
   have e0:cur.toList.length=cap*2:=by simp[fu]
   have e1:(cur.toList.take ((i+1)*2)++aN (l.drop i)++cur.toList.drop ((i+1)*2+(aN (l.drop i)).length)).toArray.toList=cur.toList.take ((i+1)*2)++(aN (l.drop i)++cur.toList.drop ((i+1)*2+(aN (l.drop i)).length)):=by simp
   have e2:(cur.toList.take ((i+1)*2)).length=(i+1)*2:=by rw[abv,e0];omega
   have e3:(cur.toList.take ((i+1)*2)).take (i*2)=aN (l.take i):=by
    rw[aeh,show min (i*2) ((i+1)*2)=i*2 by omega];have e4:cur.toList.take (i*2)=(cur.toList.take (l.length*2)).take (i*2):=by rw[aeh,show min (i*2) (l.length*2)=i*2 by omega]
    rw[e4,cW];have e5:aN l=aN (l.take i)++aN (l.drop i):=by rw[<-fh,abm]
    rw[e5];exact List.take_left' ey
   rw[e1];obtain⟨Z,hZ⟩:∃Z,Z=cur.toList.take ((i+1)*2):=⟨_,rfl⟩;obtain⟨Y,hY⟩:∃Y,Y=aN (l.drop i)++cur.toList.drop ((i+1)*2+(aN (l.drop i)).length):=⟨_,rfl⟩;rw[<-hZ]at e2 e3 |-;rw[<-hY];have e6:(Z++Y).take (i*2)=aN (l.take i):=by rw[adj (by rw[e2];omega),e3]
   have e7:(Z++Y).drop (i*2+(pF c).length)=Y:=by rw[h5,show i*2+2=(i+1)*2 by omega,List.drop_left' e2]
   rw[e6,e7,hY];show List.take _ (aN (l.take i)++(pF c)++(aN (l.drop i)++_))=_;rw[<-OF (aN (l.take i)),<-OF (aN (l.take i)++(pF c))];rw[show (l.length+1)*2=(aN (l.take i)++(pF c)++aN (l.drop i)).length by rw[BY,BY,ey,h5,pG];omega];exact adG)
 have nk:=sh (show ah [g] w W2 from ((ah.refl [g] w).drew.trans OR).trans DT);have KK:=sh AY;have gM:=sh lT;have oQ:∀lb cb,(callFunc 249 #[.slice (some ⟨b,0,none⟩) 1 1,.slice (some ⟨g,(i+1)*2,none⟩) lb cb]).run prog w= .ok (.value (.bool false)) w:=fun lb cb=>by
  rw[run_callFunc_extern func249 (by kernel_rfl) (by kernel_rfl) (by kernel_rfl) (e:=Extern.SlicesOverlaps.overlaps #[49,49] #[4]) (by kernel_rfl),
   Lib.run_overlaps_apart w 49 4 62 underlying49 2 (fun _=>by kernel_rfl) ⟨b,0,none⟩ ⟨g,(i+1)*2,none⟩ 1 1 lb cb (fun e=>Qw e.symm) 62 62 2 cur.size (by unfold aga;rw[show w.heap[b]? =_ from hc];rfl) (by unfold aga;rw[aU]) (by rw[fu];omega) (hc.frozen 0) (hc.frozen 2)]
  rfl
 have CS:cap<=9223372036854775807:=by unfold abi at dC;omega
 have z1:((i:Int)==(l.length:Int))=false:=by rw[beq_eq_false_iff_ne];omega
 have z2:(i==l.length)=false:=by rw[beq_eq_false_iff_ne];omega
 have z3:¬ (cap=i):=by omega
 have z4:decide ((cap:Int)<(l.length:Int)+1)=false:=decide_eq_false (by omega);have QU:IntKind.i64.wrap ((i:Int)+1)=(i:Int)+1:=acu _ (by omega);have z5:(l.length:Int)+1<=(cap:Int):=by omega
 have z6:l.length+1<=cap:=by omega
 have z7:¬ (cap=i+1):=by omega
 have z8:(i:Int)+1<=(l.length:Int)+1:=by omega
 have z9:(0:Int)<=(i:Int)+1:=by omega
 have z10:((i:Int)+1).toNat=i+1:=by omega
 have z11:i+1<=l.length+1:=by omega
 have z12:(i:Int)<=(l.length:Int)+1:=by omega
 have z13:(l.length:Int)<=(cap:Int):=by omega
 have HOV:=sh oQ;have afE:=oQ (l.length-i) (cap-(i+1));clear h hF aU fu cW dC hc ey pG gT h5 ar OR pK AY az DT jw lT oQ;go_enter func217,ntmps217
 go_upto_region 15 with fail
 go_still_tail 8,(by kernel_rfl)
 change wpList _ _ _ _ _ w.drew
 refine bU rfl (.tmp 73) (.tmp 76) 49 49 rfl _ _ _ _ rfl rfl KK.out ?_
 go_upto_region 17 with(refine bU (o:=⟨some 82,_,_,_,_,_⟩) rfl (.tmp 80) (.tmp 81) 49 49 rfl _ _ _ _ rfl rfl gM.out ?_)
 go_wp2_with fail
 go_ret
 exact⟨[g],_,cap,by simp[aaU],nk.out,by rw[jQ _ _ _ (by omega)];rfl,bV.out,fun x hx=> .inl hx⟩
theorem Ae(A:Option Addr)(B b i cap:Nat)(l:List (Nat×Nat))(c:Nat×Nat)(w:AI)(h:gL w B (.slice A l.length cap) l)(hB:B<=w.heap.size)(hi:i<=l.length)(hl:l.length<=10000)(hc:Bk w b 62 #[.int .i64 c.1,.int .i64 c.2])(Qw:aaU (.slice A l.length cap)≠some b):
  Calls prog 217 #[.slice A l.length cap,.int .i64 i,.slice (some ⟨b,0,none⟩) 1 1] w (oB B (.slice A l.length cap) (qt l i c) w):=by
 by_cases he:i=l.length
 ·subst he
  have e:qt l l.length c=l++[c]:=by unfold qt;simp
  rw[e];exact Ag A cap B b l c w h hB hl hc
 ·obtain⟨qh,-,h1,-,uQ,-⟩:=gL.row h
  obtain⟨g,o9,rfl,-,-⟩:=qh.at 0 (by omega);have h8:=(uQ _ rfl).1;injection h8 with _ h8;subst h8;have bL:g≠b:=fun e=>Qw (by rw[e];rfl);by_cases qg:cap=l.length
  ·subst qg
   exact yg g B b i l c w h hB (by omega) hl hc
  ·exact vh g B b i cap l c w h hB (by omega) (by omega) hl hc bL
end Go.Proofs.YtjbcbnemdhbhbaaGreatDoor
