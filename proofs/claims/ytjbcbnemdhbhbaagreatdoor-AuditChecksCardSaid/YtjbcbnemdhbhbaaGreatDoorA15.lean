import Derived.Test.YtjbcbnemdhbhbaaGreatDoorA14
import Derived.Test.YtjbcbnemdhbhbaaGreatDoorA12
set_option maxRecDepth 100000
set_option linter.unusedVariables false
set_option linter.unusedSimpArgs false
set_option maxHeartbeats 40000000
open Array renaming getElem?_toList→acL,toList_append→afJ
open Go renaming Value→No,World→AI,info_parts→ach,maxLen→abj
open Go.IntWalk renaming i64_in→acq
open Go.Lib renaming hid→sh
open Go.Value renaming ownBlock→aaT,slice→abZ
open Go.World renaming shape?→agi
open List renaming append_assoc→aaa,length_append→AT,length_drop→abQ,length_take→abx,take_append_drop→abm,take_append_of_le_length→adm,take_left→adL,take_take→aeh
open Nat renaming min→aex,zero_add→abR
open Option renaming mem_toList→abG
namespace Go.Proofs.YtjbcbnemdhbhbaaGreatDoor
open Go.Proofs.Tryz
open Go.RowKit
theorem tZ(c:Nat×Nat):aI [c]=pN c:=by simp[aI]
def oL (B:Nat) (v:No) (l:List (Nat×Nat)) (w:AI) (e:Ending) (w':AI):Prop:=
 ∃(S:List Nat) (A:Option Addr) (c:Nat),(∀g∈S,v.ownBlock=some g)/\ah S w w'/\e= .returned (.slice A l.length c)/\fC w' B (.slice A l.length c) l/\∀g,aaT (.slice A l.length c)=some g->v.ownBlock=some g\/w.heap.size<=g
def qw (l:List (Nat×Nat)) (i:Nat) (c:Nat×Nat):List (Nat×Nat):=l.take i++([c]++l.drop i)
theorem j6(l:List (Nat×Nat))(i:Nat)(c:Nat×Nat)(h:i<=l.length):(qw l i c).length=l.length+1:=by
 unfold qw;rw[AT,AT,abx,abQ];simp;omega
theorem AU(A:Option Addr)(cap B b:Nat)(l:List (Nat×Nat))(c:Nat×Nat)(w:AI)(h:fC w B (.slice A l.length cap) l)(hB:B<=w.heap.size)(hl:l.length<=10000)(hc:Bk w b 62 #[.int .i64 c.1,.int .i64 c.2]):
  Calls prog 217 #[.slice A l.length cap,.int .i64 l.length,.slice (some ⟨b,0,none⟩) 1 1] w (oL B (.slice A l.length cap) (l++[c]) w):=by
 obtain⟨i0,hi,ez,dP,eh⟩:=ach mO;obtain⟨qY,-,yY,cI,-⟩:=fC.row h;have si:cap<=9223372036854775807:=by unfold abj at cI;omega
 have HO:=sh h;have Ue:=sh (show ∀(j:Nat) (u:No),(aI [c])[j]? =some u->w.cell? ((⟨b,0,none⟩:Addr).add j)=some u from fun j u hu=>by
  rw[bJ,abR,hc.cell j,<-acL];rw[tZ]at hu;exact hu)
 have fV:=hc.lt;clear h qY cI hc;go_enter func217,ntmps217
 go_wp2_with (at_builtin;refine wpList_append_lies _ rfl (.tmp 23) (.tmp 24) 49 rfl B 62 i0 _ 2 16 underlying49 hi ez dP eh rfl (by omega) (.slice A l.length cap) l.length (aI l) rfl HO.out ⟨b,0,none⟩ 1 1 (aI [c]) rfl (cE [c]) Ue.out (mH [c]) (by omega) (by unfold abj;omega) (by omega) hB w.heap.size rfl ?_;intro gg gH w3 ax aQ df uo)
 all_goals
  have im:fC w3 B (.slice (some ⟨gg,0,none⟩) (l++[c]).length gH) (l++[c]):=by
   unfold fC;rw[fe,AT];exact ax
  have wj:∀n m,(abZ A n m).ownBlock=(abZ A 0 0).ownBlock:=fun n m=>by cases A<;>rfl
  rw[wj]at aQ df;have bF:=(ah.refl (abZ A 0 0).ownBlock.toList w).grown aQ (fun g hg=> .inl (by rw[abG];exact hg));go_ret
  exact⟨_,_,gH,fun g hg=>by rw[abG]at hg;rw[wj];exact hg,bF,by rw[AT];rfl,im,fun g hg=>by
   have e:gg=g:=by simpa[aaT]using hg
   subst e;rw[wj];rcases df with h9|h9
   ·exact .inl h9
   ·exact .inr (by omega)⟩
theorem Ea(g i n:Nat)(L:List No)(hL:L.length=i*2)(dw:i<=n)(hn:n<=10000)(W:AI)(hW:∀j u,L[j]? =some u->W.cell? ⟨g,j,none⟩=some u):
  ∃(c:Nat) (cur:Array No) (W1:AI),n+1<=c/\c<=abj/\cur.size=c*2/\cur.toList.take (i*2)=L/\Bk W1 W.heap.size 62 cur/\Below W.heap.size W W1/\W1.heap.size=W.heap.size+1/\
   (Builtin.append_ #[49,3] 49 #[.slice (some ⟨g,0,none⟩) i n,.int .i64 ((n:Int)+1-(i:Int))]).run prog W= .ok (.slice (some ⟨W.heap.size,0,none⟩) (n+1) c) W1:=by
 obtain⟨i0,hi,ez,dP,eh⟩:=ach mO;have he:i+(n+1-i)=n+1:=by omega
 have IP:=nextslicecap_le_wide (need:=i+(n+1-i)) (old:=n) (by omega);have hf:=run_firstCells_some (P:=prog) W.drew 2 i ⟨g,0,none⟩ i n L hL (fun j u hu=>by rw[bJ,abR];exact hW j u hu);have h:=Lib.run_append_grow_zeros (P:=prog) W 49 3 49 62 i0 _ .i64 .i64 underlying49 underlying3 hi ez (some ⟨g,0,none⟩) i n L (by rw[dP];exact hf) (n+1-i) (by omega) (by rw[dP];omega) (by omega) (by omega) (by rw[eh];omega) (by rw[eh];have:=Nat.mul_le_mul_right 16 IP;omega);rw[he,show ((n+1-i:Nat):Int)=(n:Int)+1-(i:Int)by omega]at h;have Eo:=grownCap_ge W (n+1) n 62;refine⟨_,_,_,Eo,grownCap_le_maxLen W (n+1) n _ (by unfold abj;omega),?_,?_,heap_alloc_new W.drew _,(Below.refl _ W).drew.alloc (Nat.le_refl _) _,by simp,h⟩
 ·have e5:(Value.agg #[.int .i64 0,.int .i64 0]).cells.size=2:=rfl
  simp only[Array.size_append,size_zeroCells,e5,List.size_toArray,hL];omega
 ·rw[afJ,afJ,aaa,adm (by simp[hL]),List.take_of_length_le (by simp[hL])]
theorem jc(g o rZ DU:Nat)(a:Addr)(qG CG:Nat)(cur:Array No)(cs:List No)(W:AI)(hg:Bk W g 62 cur)(hn:cs.length=aex qG rZ*2)(BJ:∀j v,cs[j]? =some v->W.cell? (a.add j)=some v)(gn:o+cs.length<=cur.size)(h1:∀v∈cs,v.oneCell'=true):
  ∃(v:No) (W1:AI),Bk W1 g 62 (cur.toList.take o++cs++cur.toList.drop (o+cs.length)).toArray/\ah [g] W W1/\W1.heap.size=W.heap.size/\
   (Builtin.copy_ #[49,49] 3 #[.slice (some ⟨g,o,none⟩) rZ DU,.slice (some a) qG CG]).run prog W= .ok v W1:=by
 have hs:(prog.info? 62).map (·.size)=some 2:=by
  obtain⟨i0,hi,ez,dP,eh⟩:=ach mO;rw[hi];simp[dP]
 have h:=nJ (P:=prog) W 49 49 3 62 2 g o rZ DU a qG CG cur 62 cs underlying49 hs hg hn BJ gn h1;refine⟨_,_,setRow_heap W g cur _ _ _ hg,⟨rfl,rfl,rfl,by simp,fun k _ hk=>setRow_other W g k _ (fun e=>hk (by simp[e]))⟩,by simp,h⟩
theorem xu{W:AI}{b:Nat}{c:Nat×Nat}(hc:Bk W b 62 #[.int .i64 c.1,.int .i64 c.2]):∀j v,(pN c)[j]? =some v->W.cell? ((⟨b,0,none⟩:Addr).add j)=some v:=fun j v hv=>by
 rw[bJ,abR,hc.cell j,<-acL];exact hv
theorem Gk(c:Nat×Nat):∀v∈(pN c),v.oneCell'=true:=by
 intro v hv;simp[pN]at hv;rcases hv with rfl|rfl<;>rfl
theorem xQ(l:List (Nat×Nat))(i:Nat)(c:Nat×Nat):aI (qw l i c)=aI (l.take i)++((pN c)++aI (l.drop i)):=by
 unfold qw;rw[fe,fe,tZ]
theorem qT{W:AI}{g i n:Nat}{l:List (Nat×Nat)}(hF:∀(j:Nat) (u:No),(aI l)[j]? =some u->W.cell? ⟨g,j,none⟩=some u)(hi:i<=l.length):∀j v,(aI (l.drop i))[j]? =some v->W.cell? ((⟨g,i*2,none⟩:Addr).add j)=some v:=fun j v hv=>by
 rw[bJ];have e:aI l=aI (l.take i)++aI (l.drop i):=by rw[<-fe,abm]
 have hl:(aI (l.take i)).length=i*2:=by rw[cE,abx];omega
 refine hF _ _ ?_;rw[e,List.getElem?_append_right (by omega),hl]
 rwa [show i*2+j-i*2=j by omega]
theorem yS(g B b i:Nat)(l:List (Nat×Nat))(c:Nat×Nat)(w:AI)(h:fC w B (.slice (some ⟨g,0,none⟩) l.length l.length) l)(hB:B<=w.heap.size)(hi:i<l.length)(hl:l.length<=10000)(hc:Bk w b 62 #[.int .i64 c.1,.int .i64 c.2]):
  Calls prog 217 #[.slice (some ⟨g,0,none⟩) l.length l.length,.int .i64 i,.slice (some ⟨b,0,none⟩) 1 1] w (oL B (.slice (some ⟨g,0,none⟩) l.length l.length) (qw l i c) w):=by
 obtain⟨qY,-,-,-,pO,-⟩:=fC.row h;have hF:∀(j:Nat) (u:No),(aI l)[j]? =some u->w.cell? ⟨g,j,none⟩=some u:=fun j u hu=>by
  obtain⟨b',o',hA,hb,vG⟩:=qY j u hu;injection hA with hA;injection hA with e1 e2;subst e1 e2
  rwa [abR]at vG
 have nB:g<w.heap.size:=(pO _ rfl).2.2;have O7:=trivial;have dY:(aI (l.take i)).length=i*2:=by rw[cE,abx];omega
 have pQ:(aI (l.drop i)).length=(l.length-i)*2:=by rw[cE,abQ]
 obtain⟨k,cur,W1,dy,bR,cO,dO,ar,Ks,nD,bZ⟩:=Ea g i l.length (aI (l.take i)) dY (by omega) hl w (fun j u hu=>by
  have aH:j<(aI (l.take i)).length:=(List.getElem?_eq_some_iff.1 hu).1;have:(aI l)[j]? =some u:=by
   rw[<-abm i l,fe,List.getElem?_append_left aH];exact hu
  exact hF j u this)
 obtain⟨v2,W2,aC,Ec,kd,lY⟩:=jc w.heap.size (i*2) (l.length+1-i) (k-i) ⟨b,0,none⟩ 1 1 cur (pN c) W1 ar (by rw[show aex 1 (l.length+1-i)=1 by show min 1 _=1;omega];rfl) (xu (ae hc Ks)) (by rw[cO];show i*2+2<=_;omega) (Gk c);have Zf:∀(j:Nat) (u:No),(aI l)[j]? =some u->W2.drew.cell? ⟨g,j,none⟩=some u:=fun j u hu=>(Ec.cell (p:=⟨g,j,none⟩) (by show g<_;omega) (by simp;omega)).trans ((Ks.cell (p:=⟨g,j,none⟩) nB).trans (hF j u hu));obtain⟨v3,W3,aN,UR,zV,BH⟩:=jc w.heap.size ((i+1)*2) (l.length-i) (k-(i+1)) ⟨g,i*2,none⟩ (l.length-i) (l.length-i) _ (aI (l.drop i)) W2.drew aC.drew (by rw[pQ,show aex (l.length-i) (l.length-i)=l.length-i by show min _ _=_;omega]) (qT (n:=l.length) Zf (by omega)) (by simp;rw[pQ,cO];show _<=_;have:(pN c).length=2:=rfl;omega) (mH _);have KZ:=sh bZ;have K0:=sh lY;have K7:=sh BH;have QS:k<=9223372036854775807:=by unfold abj at bR;omega
 have EK:IntKind.i64.wrap ((l.length:Int)+1-(i:Int))=(l.length:Int)+1-(i:Int):=acq _ (by omega);have z1:((i:Int)==(l.length:Int))=false:=by rw[beq_eq_false_iff_ne];omega
 have z2:(i==l.length)=false:=by rw[beq_eq_false_iff_ne];omega
 have z3:¬ (k=i):=by omega
 have z4:¬ (l.length=i):=by omega
 have z5:(i:Int)<=(l.length:Int)+1:=by omega
 have z6:i<=l.length+1:=by omega
 have z7:¬ (k=i+1):=by omega
 have Ra:IntKind.i64.wrap ((i:Int)+1)=(i:Int)+1:=acq _ (by omega);have z8:(i:Int)+1<=(l.length:Int)+1:=by omega
 have z9:(0:Int)<=(i:Int)+1:=by omega
 have z10:((i:Int)+1).toNat=i+1:=by omega
 have z11:i+1<=l.length+1:=by omega
 have z12:(i:Int)<=(l.length:Int):=by omega
 have bX:=sh (show fC W3 B (.slice (some ⟨w.heap.size,0,none⟩) (qw l i c).length k) (qw l i c)by
  refine⟨by rw[cE],.inr ⟨w.heap.size,k,_,rfl,hB,aN,by rw[j6 _ _ _ (by omega)];omega,bR,?_,?_⟩⟩
  ·simp;rw[pQ,cO];have:(pN c).length=2:=rfl;omega
  ·rw[xQ,j6 _ _ _ (by omega)]
   have h5:(pN c).length=2:=rfl;have ht2:(cur.toList.take (i*2)++(pN c)).length=(i+1)*2:=by rw[AT,dO,dY,h5];omega
   have e1:(cur.toList.take (i*2)++(pN c)++cur.toList.drop (i*2+(pN c).length)).toArray.toList.take ((i+1)*2)=cur.toList.take (i*2)++(pN c):=by
    show List.take _ (_++_++_)=_;rw[<-ht2];exact adL
   rw[e1,dO];show List.take _ ((aI (l.take i)++(pN c)++aI (l.drop i)++_))=_;rw[show aI (l.take i)++((pN c)++aI (l.drop i))=aI (l.take i)++(pN c)++aI (l.drop i)by rw[aaa]];rw[show (l.length+1)*2=(aI (l.take i)++(pN c)++aI (l.drop i)).length by rw[AT,AT,dY,h5,pQ];omega];exact adL)
 have m6:=sh (show ah [] w W3 from (((ah.af Ks []).then Ec (fun x hx=> .inr (by simp at hx;omega))).drew).then UR (fun x hx=> .inr (by simp at hx;omega)));clear h qY hF O7 bZ lY BH bR cO dO hc ar aC aN Ec UR Zf dY pQ Ks nD kd zV;go_enter func217,ntmps217
 go_upto_region 10 with(at_builtin;refine wpList_append_run rfl (.tmp 34) (.tmp 39) 49 3 rfl _ _ _ _ rfl rfl KZ.out ?_)
 go_upto_region 11 with(refine bS (o:=⟨some 45,_,_,_,_,_⟩) rfl (.tmp 43) (.tmp 44) 49 49 rfl _ _ _ _ rfl rfl K0.out ?_)
 go_still_tail 8,(by kernel_rfl)
 change wpList _ _ _ _ _ W2.drew
 refine bS rfl (.tmp 50) (.tmp 53) 49 49 rfl _ _ _ _ rfl rfl K7.out ?_;go_wp2_with fail
 go_ret
 exact⟨[],_,k,by simp,m6.out,by rw[j6 _ _ _ (by omega)];rfl,bX.out,fun x hx=> .inr (Nat.le_of_eq (by simpa[aaT]using hx))⟩
theorem vW(g B b i cap:Nat)(l:List (Nat×Nat))(c:Nat×Nat)(w:AI)(h:fC w B (.slice (some ⟨g,0,none⟩) l.length cap) l)(hB:B<=w.heap.size)(hi:i<l.length)(sV:l.length<cap)(hl:l.length<=10000)(hc:Bk w b 62 #[.int .i64 c.1,.int .i64 c.2])(QQ:g≠b):
  Calls prog 217 #[.slice (some ⟨g,0,none⟩) l.length cap,.int .i64 i,.slice (some ⟨b,0,none⟩) 1 1] w (oL B (.slice (some ⟨g,0,none⟩) l.length cap) (qw l i c) w):=by
 have hF:∀(j:Nat) (u:No),(aI l)[j]? =some u->w.cell? ⟨g,j,none⟩=some u:=fun j u hu=>by
  obtain⟨b',o',hA,hb,vG⟩:=(fC.row h).1 j u hu;injection hA with hA;injection hA with e1 e2;subst e1 e2
  rwa [abR]at vG
 have dY:(aI (l.take i)).length=i*2:=by rw[cE,abx];omega
 have pQ:(aI (l.drop i)).length=(l.length-i)*2:=by rw[cE,abQ]
 obtain⟨-,qX⟩:=id h;rcases qX with⟨h0,-⟩|⟨g',DO,cur,h0,Xe,aT,rj,cI,fy,cW⟩
 ·cases h0
 injection h0 with e1 e2 e3;injection e1 with e1;injection e1 with e1 _;subst e1 e3;clear e2;have nB:=lt_of_block aT;have h5:(pN c).length=2:=rfl;have iV:(aI l).length=l.length*2:=cE l;obtain⟨v1,W1,ar,O5,nD,BG⟩:=jc g ((i+1)*2) (l.length-i) (cap-(i+1)) ⟨g,i*2,none⟩ (l.length+1-i) (cap-i) cur (aI (l.drop i)) w.drew (Bk.drew aT) (by rw[pQ,show aex (l.length+1-i) (l.length-i)=l.length-i by show min _ _=_;omega]) (qT (n:=l.length) (W:=w.drew) hF (by omega)) (by rw[pQ,fy];omega) (mH _);obtain⟨v2,W2,aC,Ec,kd,lY⟩:=jc g (i*2) (l.length+1-i) (cap-i) ⟨b,0,none⟩ 1 1 _ (pN c) W1 ar (by rw[show aex 1 (l.length+1-i)=1 by show min 1 _=1;omega];rfl) (xu (O5.bk hc.drew (by simp;exact fun e=>QQ e.symm))) (by simp;rw[pQ,fy,h5];omega) (Gk c);have bX:=sh (show fC W2 B (.slice (some ⟨g,0,none⟩) (qw l i c).length cap) (qw l i c)by
  refine⟨by rw[cE],.inr ⟨g,cap,_,rfl,Xe,aC,by rw[j6 _ _ _ (by omega)];omega,cI,?_,?_⟩⟩
  ·simp;rw[pQ,fy,h5];omega
  ·rw[xQ,j6 _ _ _ (by omega)]
   have e0:cur.toList.length=cap*2:=by simp[fy]
   have e1:(cur.toList.take ((i+1)*2)++aI (l.drop i)++cur.toList.drop ((i+1)*2+(aI (l.drop i)).length)).toArray.toList=cur.toList.take ((i+1)*2)++(aI (l.drop i)++cur.toList.drop ((i+1)*2+(aI (l.drop i)).length)):=by simp
   have e2:(cur.toList.take ((i+1)*2)).length=(i+1)*2:=by rw[abx,e0];omega
   have e3:(cur.toList.take ((i+1)*2)).take (i*2)=aI (l.take i):=by
    rw[aeh,show min (i*2) ((i+1)*2)=i*2 by omega];have e4:cur.toList.take (i*2)=(cur.toList.take (l.length*2)).take (i*2):=by rw[aeh,show min (i*2) (l.length*2)=i*2 by omega]
    rw[e4,cW];have e5:aI l=aI (l.take i)++aI (l.drop i):=by rw[<-fe,abm]
    rw[e5];exact List.take_left' dY
   rw[e1];obtain⟨Z,hZ⟩:∃Z,Z=cur.toList.take ((i+1)*2):=⟨_,rfl⟩;obtain⟨Y,hY⟩:∃Y,Y=aI (l.drop i)++cur.toList.drop ((i+1)*2+(aI (l.drop i)).length):=⟨_,rfl⟩;rw[<-hZ]at e2 e3 |-;rw[<-hY];have e6:(Z++Y).take (i*2)=aI (l.take i):=by rw[adm (by rw[e2];omega),e3]
   have e7:(Z++Y).drop (i*2+(pN c).length)=Y:=by rw[h5,show i*2+2=(i+1)*2 by omega,List.drop_left' e2]
   rw[e6,e7,hY];show List.take _ (aI (l.take i)++(pN c)++(aI (l.drop i)++_))=_;rw[<-aaa (aI (l.take i)),<-aaa (aI (l.take i)++(pN c))];rw[show (l.length+1)*2=(aI (l.take i)++(pN c)++aI (l.drop i)).length by rw[AT,AT,dY,h5,pQ];omega];exact adL)
 have m6:=sh (show ah [g] w W2 from ((ah.refl [g] w).drew.trans O5).trans Ec);have F0:=sh BG;have gY:=sh lY;have oY:∀lb cb,(callFunc 249 #[.slice (some ⟨b,0,none⟩) 1 1,.slice (some ⟨g,(i+1)*2,none⟩) lb cb]).run prog w= .ok (.value (.bool false)) w:=fun lb cb=>by
  rw[run_callFunc_extern func249 (by kernel_rfl) (by kernel_rfl) (by kernel_rfl) (e:=Extern.SlicesOverlaps.overlaps #[49,49] #[4]) (by kernel_rfl),
   Lib.run_overlaps_apart w 49 4 62 underlying49 2 (fun _=>by kernel_rfl) ⟨b,0,none⟩ ⟨g,(i+1)*2,none⟩ 1 1 lb cb (fun e=>QQ e.symm) 62 62 2 cur.size (by unfold agi;rw[show w.heap[b]? =_ from hc];rfl) (by unfold agi;rw[aT]) (by rw[fy];omega) (hc.frozen 0) (hc.frozen 2)]
  rfl
 have zO:cap<=9223372036854775807:=by unfold abj at cI;omega
 have z1:((i:Int)==(l.length:Int))=false:=by rw[beq_eq_false_iff_ne];omega
 have z2:(i==l.length)=false:=by rw[beq_eq_false_iff_ne];omega
 have z3:¬ (cap=i):=by omega
 have z4:decide ((cap:Int)<(l.length:Int)+1)=false:=decide_eq_false (by omega);have Ra:IntKind.i64.wrap ((i:Int)+1)=(i:Int)+1:=acq _ (by omega);have z5:(l.length:Int)+1<=(cap:Int):=by omega
 have z6:l.length+1<=cap:=by omega
 have z7:¬ (cap=i+1):=by omega
 have z8:(i:Int)+1<=(l.length:Int)+1:=by omega
 have z9:(0:Int)<=(i:Int)+1:=by omega
 have z10:((i:Int)+1).toNat=i+1:=by omega
 have z11:i+1<=l.length+1:=by omega
 have z12:(i:Int)<=(l.length:Int)+1:=by omega
 have z13:(l.length:Int)<=(cap:Int):=by omega
 have HOV:=sh oY;have afC:=oY (l.length-i) (cap-(i+1));clear h hF aT fy cW cI hc dY pQ iV h5 ar O5 nD BG aC Ec kd lY oY;go_enter func217,ntmps217
 go_upto_region 15 with fail
 go_still_tail 8,(by kernel_rfl)
 change wpList _ _ _ _ _ w.drew
 refine bS rfl (.tmp 73) (.tmp 76) 49 49 rfl _ _ _ _ rfl rfl F0.out ?_
 go_upto_region 17 with(refine bS (o:=⟨some 82,_,_,_,_,_⟩) rfl (.tmp 80) (.tmp 81) 49 49 rfl _ _ _ _ rfl rfl gY.out ?_)
 go_wp2_with fail
 go_ret
 exact⟨[g],_,cap,by simp[aaT],m6.out,by rw[j6 _ _ _ (by omega)];rfl,bX.out,fun x hx=> .inl hx⟩
theorem AR(A:Option Addr)(B b i cap:Nat)(l:List (Nat×Nat))(c:Nat×Nat)(w:AI)(h:fC w B (.slice A l.length cap) l)(hB:B<=w.heap.size)(hi:i<=l.length)(hl:l.length<=10000)(hc:Bk w b 62 #[.int .i64 c.1,.int .i64 c.2])(QQ:aaT (.slice A l.length cap)≠some b):
  Calls prog 217 #[.slice A l.length cap,.int .i64 i,.slice (some ⟨b,0,none⟩) 1 1] w (oL B (.slice A l.length cap) (qw l i c) w):=by
 by_cases he:i=l.length
 ·subst he
  have e:qw l l.length c=l++[c]:=by unfold qw;simp
  rw[e];exact AU A cap B b l c w h hB hl hc
 ·obtain⟨qY,-,h1,-,pO,-⟩:=fC.row h
  obtain⟨g,o9,rfl,-,-⟩:=qY.at 0 (by omega);have h8:=(pO _ rfl).1;injection h8 with _ h8;subst h8;have bM:g≠b:=fun e=>QQ (by rw[e];rfl);by_cases yY:cap=l.length
  ·subst yY
   exact yS g B b i l c w h hB (by omega) hl hc
  ·exact vW g B b i cap l c w h hB (by omega) (by omega) hl hc bM
end Go.Proofs.YtjbcbnemdhbhbaaGreatDoor
