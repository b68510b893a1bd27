import Derived.Test.YtjbcbnemdhbhbaaGreatDoorA6
import Derived.Deep.RegionLaw
import Derived.StillTailTactics
import Derived.Test.YtjbcbnemdhbhbaaGreatDoorA7
set_option maxRecDepth 100000
set_option linter.unusedVariables false
set_option linter.unusedSimpArgs false
set_option maxHeartbeats 40000000
open Array renaming getElem?_toList→acL,toList_append→afJ
open ByteArray renaming empty→abY
open Go renaming Value→No,World→AI,info_parts→ach,maxLen→abj
open Go.IntWalk renaming i64_in→acq
open Go.Lib renaming hid→sh
open Go.Value renaming ownBlock→aaT,slice→abZ
open List renaming append_assoc→aaa,drop_drop→agC,drop_left→afX,getElem?_append_right→abU,getElem?_map→acC,getElem_map→acn,length_append→AT,length_drop→abQ,length_map→IS,length_take→abx,map_append→abI,map_cons→acm,mem_append→By,mem_cons→OF,mem_flatMap→abr,mem_map_of_mem→abO,mem_singleton→IN,nil_append→acI,nodup_append→aag,nodup_cons→abJ,pairwise_cons→acX,perm_append_comm→adu,take_append_drop→abm,take_left→adL
open List.Pairwise renaming sublist→afl
open List.Sublist renaming refl→agy
open Nat renaming le_refl→AS,min→aex,sub_self→agj,zero_add→abR
open Option renaming mem_toList→abG
namespace Go.Proofs.YtjbcbnemdhbhbaaGreatDoor
open Go.Proofs.Tryz
open Go.RowKit
def kC (l:List Ce) (i:Nat) (c:Ce):List Ce:=l.take i++([c]++l.drop i)
theorem iF(l:List Ce)(i:Nat)(c:Ce)(h:i<=l.length):(kC l i c).length=l.length+1:=by
 unfold kC;rw[AT,AT,abx,abQ];simp;omega
theorem EP(A:Option Addr)(cap B b:Nat)(l:List Ce)(c:Ce)(w:AI)(h:ba w B (.slice A l.length cap) l)(hB:B<=w.heap.size)(hl:l.length<=10000)(hc:Bk w b 170 #[.string c.key,.string c.val,.int .i64 c.over,.int .i64 c.size,.int .i64 c.child]):
  Calls prog 107 #[.slice A l.length cap,.int .i64 l.length,.slice (some ⟨b,0,none⟩) 1 1] w (yK B (.slice A l.length cap) (l++[c]) w):=by
 obtain⟨i0,hi,ez,dP,eh⟩:=ach dZ;obtain⟨r,GM,qY⟩:=h.row;obtain⟨rA,rn,rc⟩:=r;simp only at GM;injection GM with e1 e2 e3;subst e1 e2 e3;have yY:=qY.2.1;have cI:=qY.2.2.1;simp only at yY cI;have si:cap<=9223372036854775807:=by unfold abj at cI;omega
 have HO:=sh h;have Ue:=sh (show ∀(j:Nat) (u:No),(aA [c])[j]? =some u->w.cell? ((⟨b,0,none⟩:Addr).add j)=some u from fun j u hu=>by
  rw[bJ,abR,hc.cell j,<-acL];rw[fb]at hu;exact hu)
 have fV:=hc.lt;clear h qY cI hc;go_enter func107,ntmps107
 go_wp2_with (at_builtin;refine wpList_append_lies _ rfl (.tmp 23) (.tmp 24) 174 rfl B 170 i0 _ 5 56 underlying174 hi ez dP eh rfl (by omega) (.slice A l.length cap) l.length (aA l) rfl HO.out ⟨b,0,none⟩ 1 1 (aA [c]) rfl (bC [c]) Ue.out (dX [c]) (by omega) (by unfold abj;omega) (by omega) hB w.heap.size rfl ?_;intro gg gH w3 ax aQ df uo)
 all_goals
  have im:ba w3 B (.slice (some ⟨gg,0,none⟩) (l++[c]).length gH) (l++[c]):=by
   unfold ba;rw[bP,AT];exact ax
  have wj:∀n m,(abZ A n m).ownBlock=(abZ A 0 0).ownBlock:=fun n m=>by cases A<;>rfl
  rw[wj]at aQ df;have bF:=(ah.refl (abZ A 0 0).ownBlock.toList w).grown aQ (fun g hg=> .inl (by rw[abG];exact hg));go_ret
  exact⟨_,_,gH,fun g hg=>by rw[abG]at hg;rw[wj];exact hg,bF,by rw[AT];rfl,im,fun g hg=>by
   have e:gg=g:=by simpa[aaT]using hg
   subst e;rw[wj];rcases df with h9|h9
   ·exact .inl h9
   ·exact .inr (by omega)⟩
theorem Kg(g i n:Nat)(L:List No)(hL:L.length=i*5)(dw:i<=n)(hn:n<=10000)(W:AI)(hW:∀j u,L[j]? =some u->W.cell? ⟨g,j,none⟩=some u):
  ∃(c:Nat) (cur:Array No) (W1:AI),n+1<=c/\c<=abj/\cur.size=c*5/\cur.toList.take (i*5)=L/\Bk W1 W.heap.size 170 cur/\Below W.heap.size W W1/\W1.heap.size=W.heap.size+1/\
   (Builtin.append_ #[174,3] 174 #[.slice (some ⟨g,0,none⟩) i n,.int .i64 ((n:Int)+1-(i:Int))]).run prog W= .ok (.slice (some ⟨W.heap.size,0,none⟩) (n+1) c) W1:=by
 obtain⟨i0,hi,ez,dP,eh⟩:=ach dZ;have he:i+(n+1-i)=n+1:=by omega
 have IP:=nextslicecap_le_wide (need:=i+(n+1-i)) (old:=n) (by omega);have hf:=run_firstCells_some (P:=prog) W.drew 5 i ⟨g,0,none⟩ i n L hL (fun j u hu=>by rw[bJ,abR];exact hW j u hu);have h:=Lib.run_append_grow_zeros (P:=prog) W 174 3 174 170 i0 _ .i64 .i64 underlying174 underlying3 hi ez (some ⟨g,0,none⟩) i n L (by rw[dP];exact hf) (n+1-i) (by omega) (by rw[dP];omega) (by omega) (by omega) (by rw[eh];omega) (by rw[eh];have:=Nat.mul_le_mul_right 56 IP;omega);rw[he,show ((n+1-i:Nat):Int)=(n:Int)+1-(i:Int)by omega]at h;have Eo:=grownCap_ge W (n+1) n 170;refine⟨_,_,_,Eo,grownCap_le_maxLen W (n+1) n _ (by unfold abj;omega),?_,?_,heap_alloc_new W.drew _,(Below.refl _ W).drew.alloc (AS _) _,by simp,h⟩
 ·have e5:(Value.agg #[.string abY,.string abY,.int .i64 0,.int .i64 0,.int .i64 0]).cells.size=5:=rfl
  simp only[Array.size_append,size_zeroCells,e5,List.size_toArray,hL];omega
 ·rw[afJ,afJ,aaa,List.take_append_of_le_length (by simp[hL]),List.take_of_length_le (by simp[hL])]
theorem kp(g o rZ DU:Nat)(a:Addr)(qG CG:Nat)(cur:Array No)(cs:List No)(W:AI)(hg:Bk W g 170 cur)(hn:cs.length=aex qG rZ*5)(BJ:∀j v,cs[j]? =some v->W.cell? (a.add j)=some v)(gn:o+cs.length<=cur.size)(h1:∀v∈cs,v.oneCell'=true):
  ∃(v:No) (W1:AI),Bk W1 g 170 (cur.toList.take o++cs++cur.toList.drop (o+cs.length)).toArray/\ah [g] W W1/\W1.heap.size=W.heap.size/\
   (Builtin.copy_ #[174,174] 3 #[.slice (some ⟨g,o,none⟩) rZ DU,.slice (some a) qG CG]).run prog W= .ok v W1:=by
 have hs:(prog.info? 170).map (·.size)=some 5:=by
  obtain⟨i0,hi,ez,dP,eh⟩:=ach dZ;rw[hi];simp[dP]
 have h:=nJ (P:=prog) W 174 174 3 170 5 g o rZ DU a qG CG cur 170 cs underlying174 hs hg hn BJ gn h1;refine⟨_,_,setRow_heap W g cur _ _ _ hg,⟨rfl,rfl,rfl,by simp,fun k _ hk=>setRow_other W g k _ (fun e=>hk (by simp[e]))⟩,by simp,h⟩
theorem Av{W:AI}{b:Nat}{c:Ce}(hc:Bk W b 170 #[.string c.key,.string c.val,.int .i64 c.over,.int .i64 c.size,.int .i64 c.child]):∀j v,c.eG[j]? =some v->W.cell? ((⟨b,0,none⟩:Addr).add j)=some v:=fun j v hv=>by
 rw[bJ,abR,hc.cell j,<-acL];exact hv
theorem CU(c:Ce):∀v∈c.eG,v.oneCell'=true:=by
 intro v hv;simp[Ce.eG]at hv;rcases hv with rfl|rfl|rfl|rfl|rfl<;>rfl
theorem xO(l:List Ce)(i:Nat)(c:Ce):aA (kC l i c)=aA (l.take i)++(c.eG++aA (l.drop i)):=by
 unfold kC;rw[bP,bP,fb];rfl
theorem tR{W:AI}{g i n:Nat}{l:List Ce}(hF:∀(j:Nat) (u:No),(aA l)[j]? =some u->W.cell? ⟨g,j,none⟩=some u)(hi:i<=l.length):∀j v,(aA (l.drop i))[j]? =some v->W.cell? ((⟨g,i*5,none⟩:Addr).add j)=some v:=fun j v hv=>by
 rw[bJ];have e:aA l=aA (l.take i)++aA (l.drop i):=by rw[<-bP,abm]
 have hl:(aA (l.take i)).length=i*5:=by rw[bC,abx];omega
 refine hF _ _ ?_;rw[e,abU (by omega),hl]
 rwa [show i*5+j-i*5=j by omega]
theorem BU(g B b i:Nat)(l:List Ce)(c:Ce)(w:AI)(h:ba w B (.slice (some ⟨g,0,none⟩) l.length l.length) l)(hB:B<=w.heap.size)(hi:i<l.length)(hl:l.length<=10000)(hc:Bk w b 170 #[.string c.key,.string c.val,.int .i64 c.over,.int .i64 c.size,.int .i64 c.child]):
  Calls prog 107 #[.slice (some ⟨g,0,none⟩) l.length l.length,.int .i64 i,.slice (some ⟨b,0,none⟩) 1 1] w (yK B (.slice (some ⟨g,0,none⟩) l.length l.length) (kC l i c) w):=by
 have bd:∃r:Rw,abZ (some ⟨g,0,none⟩) l.length l.length= .slice r.A r.n r.c/\aW w (fun b=>B<=b) r l:=h.row;obtain⟨⟨rA,rn,rc⟩,GM,qY⟩:=bd;simp only at GM;injection GM with e1 e2 e3;subst e1 e2 e3;have hF:∀(j:Nat) (u:No),(aA l)[j]? =some u->w.cell? ⟨g,j,none⟩=some u:=fun j u hu=>by
  have:=qY.flat rfl j u hu
  rwa [abR]at this
 obtain⟨b9,o9,pO,O7,-⟩:=qY.at 0 (by omega);injection pO with pO;injection pO with e1 e2;subst e1;clear e2;have nB:=O7.2;have dY:(aA (l.take i)).length=i*5:=by rw[bC,abx];omega
 have pQ:(aA (l.drop i)).length=(l.length-i)*5:=by rw[bC,abQ]
 obtain⟨k,cur,W1,dy,bR,cO,dO,ar,Ks,nD,bZ⟩:=Kg g i l.length (aA (l.take i)) dY (by omega) hl w (fun j u hu=>by
  have aH:j<(aA (l.take i)).length:=(List.getElem?_eq_some_iff.1 hu).1;have:(aA l)[j]? =some u:=by
   rw[<-abm i l,bP,List.getElem?_append_left aH];exact hu
  exact hF j u this)
 obtain⟨v2,W2,aC,Ec,kd,lY⟩:=kp w.heap.size (i*5) (l.length+1-i) (k-i) ⟨b,0,none⟩ 1 1 cur c.eG W1 ar (by rw[show aex 1 (l.length+1-i)=1 by show min 1 _=1;omega];rfl) (Av (ae hc Ks)) (by rw[cO];show i*5+5<=_;omega) (CU c);have Zf:∀(j:Nat) (u:No),(aA l)[j]? =some u->W2.drew.cell? ⟨g,j,none⟩=some u:=fun j u hu=>(Ec.cell (p:=⟨g,j,none⟩) (by show g<_;omega) (by simp;omega)).trans ((Ks.cell (p:=⟨g,j,none⟩) nB).trans (hF j u hu));obtain⟨v3,W3,aN,UR,zV,BH⟩:=kp w.heap.size ((i+1)*5) (l.length-i) (k-(i+1)) ⟨g,i*5,none⟩ (l.length-i) (l.length-i) _ (aA (l.drop i)) W2.drew aC.drew (by rw[pQ,show aex (l.length-i) (l.length-i)=l.length-i by show min _ _=_;omega]) (tR (n:=l.length) Zf (by omega)) (by simp;rw[pQ,cO];show _<=_;have:c.eG.length=5:=rfl;omega) (dX _);have KZ:=sh bZ;have K0:=sh lY;have K7:=sh BH;have QS:k<=9223372036854775807:=by unfold abj at bR;omega
 have EK:IntKind.i64.wrap ((l.length:Int)+1-(i:Int))=(l.length:Int)+1-(i:Int):=acq _ (by omega);have z1:((i:Int)==(l.length:Int))=false:=by rw[beq_eq_false_iff_ne];omega
 have z2:(i==l.length)=false:=by rw[beq_eq_false_iff_ne];omega
 have z3:¬ (k=i):=by omega
 have z4:¬ (l.length=i):=by omega
 have z5:(i:Int)<=(l.length:Int)+1:=by omega
 have z6:i<=l.length+1:=by omega
 have z7:¬ (k=i+1):=by omega
 have Ra:IntKind.i64.wrap ((i:Int)+1)=(i:Int)+1:=acq _ (by omega);have z8:(i:Int)+1<=(l.length:Int)+1:=by omega
 have z9:(0:Int)<=(i:Int)+1:=by omega
 have z10:((i:Int)+1).toNat=i+1:=by omega
 have z11:i+1<=l.length+1:=by omega
 have z12:(i:Int)<=(l.length:Int):=by omega
 have bX:=sh (show ba W3 B (.slice (some ⟨w.heap.size,0,none⟩) (kC l i c).length k) (kC l i c)by
  refine⟨by rw[bC],.inr ⟨w.heap.size,k,_,rfl,hB,aN,by rw[iF _ _ _ (by omega)];omega,bR,?_,?_⟩⟩
  ·simp;rw[pQ,cO];have:c.eG.length=5:=rfl;omega
  ·rw[xO,iF _ _ _ (by omega)]
   have h5:c.eG.length=5:=rfl;have ht5:(cur.toList.take (i*5)++c.eG).length=(i+1)*5:=by rw[AT,dO,dY,h5];omega
   have e1:(cur.toList.take (i*5)++c.eG++cur.toList.drop (i*5+c.eG.length)).toArray.toList.take ((i+1)*5)=cur.toList.take (i*5)++c.eG:=by
    show List.take _ (_++_++_)=_;rw[<-ht5];exact adL
   rw[e1,dO];show List.take _ ((aA (l.take i)++c.eG++aA (l.drop i)++_))=_;rw[show aA (l.take i)++(c.eG++aA (l.drop i))=aA (l.take i)++c.eG++aA (l.drop i)by rw[aaa]];rw[show (l.length+1)*5=(aA (l.take i)++c.eG++aA (l.drop i)).length by rw[AT,AT,dY,h5,pQ];omega];exact adL)
 have m6:=sh (show ah [] w W3 from (((ah.af Ks []).then Ec (fun x hx=> .inr (by simp at hx;omega))).drew).then UR (fun x hx=> .inr (by simp at hx;omega)));clear h qY hF O7 bZ lY BH bR cO dO hc ar aC aN Ec UR Zf dY pQ Ks nD kd zV;go_enter func107,ntmps107
 go_upto_region 10 with(at_builtin;refine wpList_append_run rfl (.tmp 34) (.tmp 39) 174 3 rfl _ _ _ _ rfl rfl KZ.out ?_)
 go_upto_region 11 with(refine bS (o:=⟨some 45,_,_,_,_,_⟩) rfl (.tmp 43) (.tmp 44) 174 174 rfl _ _ _ _ rfl rfl K0.out ?_)
 go_still_tail 8,(by kernel_rfl)
 change wpList _ _ _ _ _ W2.drew
 refine bS rfl (.tmp 50) (.tmp 53) 174 174 rfl _ _ _ _ rfl rfl K7.out ?_;go_wp2_with fail
 go_ret
 exact⟨[],_,k,by simp,m6.out,by rw[iF _ _ _ (by omega)];rfl,bX.out,fun x hx=> .inr (Nat.le_of_eq (by simpa[aaT]using hx))⟩
namespace Tr
theorem Ff{σ :ag}{d:Nat}{cs:List Ce}{P:List Nat}{L:List En}(h:Part σ d cs P L)(key:ByteArray)(hk:∀e∈L,Nd.lt e.cell.key key=false)(ia:key.size<=120)(hs:Nd.sum (d==0) cs<=750)(hg:Good (d==0) cs L/\Hp d L):
  ∃xs,Parts σ d key (ck key (d==0) cs) P L xs/\∀x∈xs,Good (d==0) x.cs x.L/\Hp d x.L:=by
 obtain⟨xs,hp⟩:=h.parts key hk ia hs;refine⟨xs,hp,?_⟩;rcases hp.count with h1|⟨-,h1⟩
 ·obtain⟨x,e,-,-,h2,h3,-,-⟩:=hp.one h1
  subst e;intro y hy;obtain rfl:=IN.1 hy;have h4:cs=y.cs:=by
   have h5:=hp.WA;unfold ck at h5;split at h5
   ·simp[Pd.pt]at h5;exact h5.2
   ·simp at h5
  rw[<-h4,<-h2];exact hg
 ·exact h1
theorem Ca{σ σ2:ag}{d:Nat}{A C:List Kd}{k0 k1:Kd}{X:List Nat}{F:List En}{a b:List Ce}{Pa Pb:List Nat}{La Lb:List En}(ha:Part σ2 d a Pa La)(hb:Part σ2 d b Pb Lb)(h1:∀e∈La,Nd.lt e.cell.key k1.key=true)(h2:∀e∈Lb,Nd.lt e.cell.key k1.key=false)
  (mL:k0.key.size<=120) (dy:k1.key.size<=120) (hm:aE (lc d) σ (k0.P++k1.P++X) σ2 (Pa++Pb)) (um:∀e∈La++Lb,Nd.lt e.cell.key k0.key=false) (zW:∀e∈La++Lb,∀c∈C,Nd.lt e.cell.key c.key=true) (heq:F=A.flatMap (·.L)++(La++Lb)++C.flatMap (·.L))
  (hs:Nd.sum (d==0) a+Nd.sum (d==0) b<=612) (hg:La++Lb≠[]) (ra:(d==0)=false->2<=a.length+b.length) (Bo:d=0->122<=Nd.sum true a\/122<=Nd.sum true b):
  (∃xs,Uv σ d A [k0,k1] C X F k0.key σ2 (ck k0.key (d==0) (a++Nd.first (d==0) k1.key b)) xs (La++Lb))/\Nd.sum (d==0) (a++Nd.first (d==0) k1.key b)<=750/\∀c∈a++Nd.first (d==0) k1.key b,Nd.aL (d==0) c=true:=by
 have hj:=ha.join hb h1 h2 dy;have dL:Nd.sum (d==0) (a++Nd.first (d==0) k1.key b)<=750:=by
  have e1:=Nd.mX (d==0) a (Nd.first (d==0) k1.key b);have e2:=Nd.ym (d==0) k1.key b;omega
 obtain⟨xs,hx,hgx⟩:=Ff hj k0.key um mL dL ⟨⟨hg,fun hd=>by rw[AT,Nd.ir];exact ra hd⟩,fun hd=>by
  subst hd;have e1:=hj.1;rw[<-e1];have e2:=Nd.mX true a b;have e3:=Nd.ey true a;have e4:=Nd.ey true b;have e5:=Bo rfl;show 122<=Nd.sum true (a++b);omega⟩
 exact⟨⟨xs,⟨k0,[k1],rfl,rfl⟩,⟨_,hx,by simpa using hm⟩,zW,heq,hgx⟩,dL,hj.right.2⟩
theorem uU{σ σ1:ag}{d:Nat}{x o:Kd}{X P1:List Nat}{cN:Nat}(hm:aE cN σ (x.P++X) σ1 P1)(bB:Hp d o.L)(ho:aD σ d o.no o.P o.L)(hN:(x.P++X++o.P).Nodup):
  ∃(kX:List Ce) (oP:List Nat),o.P=o.no::oP/\ σ1 o.no=some ⟨if (d==0)then 1 else 2,Nd.str (d==0) kX⟩/\Part (cY σ1 o.no none) d kX oP o.L/\Nd.sum (d==0) kX<=488/\o.L≠[]/\((d==0)=false->2<=kX.length)/\(∀n∈P1,n≠o.no)/\aE cN σ (x.P++X++o.P) (cY σ1 o.no none) (P1++oP)/\Nd.right (d==0) kX=true/\0<kX.length/\(d=0->122<=Nd.sum true kX):=by
 obtain⟨h1,h2,h3⟩:=aag.1 hN;have jB:=fun n hn=>(ho.mem n hn).2.2;have QN:∀n∈o.P,n∉x.P++X:=fun n hn hm=>h3 n hm n hn rfl;have iE:=hm.same jB QN;have bU:=hm.frame jB h2 QN;have rk:=ho.congr iE;obtain⟨kX,oP,e,g1,g2,g3,g4,g5,g6,g7⟩:=rk;have gd:o.no∉P1++oP:=by
  have bI:=bU.nodup;rw[e]at bI;obtain⟨q1,q2,q3⟩:=aag.1 bI;intro hh;rcases By.1 hh with hh|hh
  ·exact q3 _ hh _ (by simp) rfl
  ·exact(abJ.1 q2).1 hh
 have ri:∀n∈P1++oP,cY σ1 o.no none n= σ1 n:=fun n hn=>dM _ _ (fun e=>gd (by rw[<-e];exact hn));refine⟨kX,oP,e,g3,g4.congr fun n hn=>ri n (by simp[hn]),g5,g6,g7,fun n hn e=>gd (by rw[<-e];simp[hn]),?_,g4.right.1,?_,fun hd=> ?_⟩
 ·refine aE.more (c:=cN+0) (bU.trans ?_) (AS _)
  have f1:=(aE.drop σ1 o.no).frame (R:=P1++oP) (fun n hn=>bU.there n (by rw[e];rcases By.1 hn with hn|hn<;>simp[hn])) (by
   have bI:=bU.nodup;rw[e]at bI;obtain⟨q1,q2,q3⟩:=aag.1 bI;exact aag.2 ⟨q1,(abJ.1 q2).2,fun a ha b hb=>q3 a ha b (by simp[hb])⟩) (fun n hn=>by simp;rintro rfl;exact gd hn)
  refine f1.perm ?_ ?_
  ·rw[e,List.singleton_append]
   exact List.perm_middle.symm
  ·simp
 ·cases d with
  | zero=>
   obtain⟨q1,-⟩:=g4;cases kX with
   | nil=>cases hL:o.L with
    | nil=>exact absurd hL g6
    | cons a t=>rw[hL]at q1;simp at q1
   | cons a t=>simp
  | succ d=>have:=g7 rfl;omega
 ·subst hd
  rw[g4.1];exact bB rfl
theorem B1{σ :ag}{d:Nat}{A C:List Kd}{k0 k1:Kd}{X:List Nat}(hB:Kids σ d (A++[k0,k1]++C))(hN:((A++[k0,k1]++C).flatMap (·.P)++X).Nodup):
  (k0.P++X++k1.P).Nodup/\(k1.P++X++k0.P).Nodup/\k0.key.size<=120/\k1.key.size<=120/\aD σ d k0.no k0.P k0.L/\aD σ d k1.no k1.P k1.L/\(∀e∈k0.L,Nd.lt e.cell.key k1.key=true)/\(∀e∈k1.L,Nd.lt e.cell.key k1.key=false)/\(∀e∈k0.L,Nd.lt e.cell.key k0.key=false)/\
   Nd.lt k0.key k1.key=true/\(∀c∈C,∀e∈k0.L,Nd.lt e.cell.key c.key=true)/\(∀c∈C,∀e∈k1.L,Nd.lt e.cell.key c.key=true)/\(∀a∈A,∀e∈a.L,Nd.lt e.cell.key k0.key=true)/\(∀c∈C,∀e∈c.L,Nd.lt e.cell.key c.key=false)/\Hp d k0.L/\Hp d k1.L:=by
 have h0:=hB.each k0 (by simp);have h1:=hB.each k1 (by simp);have hs:=hB.sep;rw[abI,abI,eT,eT]at hs;obtain⟨⟨sA,sM,sAM⟩,sC,sMC⟩:=hs;rw[acm,fN]at sM;obtain⟨⟨m1,m2⟩,m3⟩:=sM;have q01:=m1 k1.rg (by simp);obtain⟨z,t,hz⟩:=List.exists_cons_of_ne_nil h0.2.ne;have hz:z∈k0.L:=by rw[hz];simp
 have hp:(k0.P++X++k1.P).Nodup/\(k1.P++X++k0.P).Nodup:=by
  have e:((A++[k0,k1]++C).flatMap (·.P)++X)=A.flatMap (·.P)++(k0.P++(k1.P++(C.flatMap (·.P)++X))):=by
   simp
  rw[e]at hN;have n1:=(aag.1 hN).2.1;obtain⟨a1,a2,a3⟩:=aag.1 n1;obtain⟨b1,b2,b3⟩:=aag.1 a2;obtain⟨c1,c2,c3⟩:=aag.1 b2;constructor
  ·refine aag.2 ⟨aag.2 ⟨a1,c2,fun a ha b hb=>a3 a ha b (by simp[hb])⟩,b1,fun a ha b hb=> ?_⟩
   rcases By.1 ha with ha|ha
   ·exact a3 a ha b (by simp[hb])
   ·exact fun e=>b3 b hb a (by simp[ha]) e.symm
  ·refine aag.2 ⟨aag.2 ⟨b1,c2,fun a ha b hb=>b3 a ha b (by simp[hb])⟩,a1,fun a ha b hb=> ?_⟩
   rcases By.1 ha with ha|ha
   ·exact fun e=>a3 b hb a (by simp[ha]) e.symm
   ·exact fun e=>a3 b hb a (by simp[ha]) e.symm
 exact⟨hp.1,hp.2,h0.1.1,h1.1.1,h0.2,h1.2,q01,m3.2 k1.rg (by simp),m2,B3 (m2 z hz) (q01 z hz),fun c hc e he=>sMC k0.rg (by simp) c.rg (abO hc) e he,fun c hc e he=>sMC k1.rg (by simp) c.rg (abO hc) e he,
  fun a ha e he=>sAM a.rg (abO ha) k0.rg (by simp) e he,fun c hc e he=>sC.2 c.rg (abO hc) e he,h0.1.2,h1.1.2⟩
theorem Jp{σ σ1:ag}{d:Nat}{C:List Kd}{k0 k1:Kd}{X:List Nat}{f:List En->List En}{key:ByteArray}{xd:Pd}(hf:eJ key f)(hB:Kids σ d ([]++[k0,k1]++C))(hN:(([]++[k0,k1]++C:List Kd).flatMap (·.P)++X).Nodup)
  (hC:∀c∈k1::C,Nd.lt key c.key=true) (hx:Nd.lt key k0.key=false) (hm:aE (lc d) σ (k0.P++X) σ1 xd.P) (hp:Part σ1 d xd.cs xd.P (f k0.L)) (hs:Nd.sum (d==0) xd.cs<122) (hc:(d==0)=false->1<=xd.cs.length):
  ∃kX,σ1 k1.no=some ⟨if (d==0)then 1 else 2,Nd.str (d==0) kX⟩/\Nd.right (d==0) kX=true/\Nd.sum (d==0) kX<=488/\0<kX.length/\(∃xs,Uv σ d [] [k0,k1] C X (f (([]++[k0,k1]++C:List Kd).flatMap (·.L))) k0.key (cY σ1 k1.no none) (ck k0.key (d==0) (xd.cs++Nd.first (d==0) k1.key kX)) xs (f k0.L++k1.L))/\
   Nd.sum (d==0) (xd.cs++Nd.first (d==0) k1.key kX)<=750/\∀c∈xd.cs++Nd.first (d==0) k1.key kX,Nd.aL (d==0) c=true:=by
 obtain⟨n1,n2,s0,s1,t0,t1,q1,q2,q3,q4,q5,q6,q7,q8,f0,f1⟩:=B1 hB hN;obtain⟨kX,oP,e,g1,g2,g3,g4,g5,g6,g7,g8,g9,g10⟩:=uU hm f1 t1 n1;have MT:Part (cY σ1 k1.no none) d xd.cs xd.P (f k0.L):=hp.congr fun n hn=>dM _ _ (g6 n hn);refine⟨kX,g1,g8,g3,g9,?_⟩;refine Ca MT g2 (fun e he=> ?_) q2 s0 s1 (g7.perm (by rw[aaa,aaa];exact List.Perm.append_left _ adu) (List.Perm.refl _)) (fun e he=> ?_) (fun e he c vG=> ?_) ?_ (by omega) (by simp[g4]) (fun hd=>by have:=g5 hd;omega) (fun hd=> .inr (g10 hd))
 ·rcases hf.mem _ e he with h|h
  ·exact q1 e h
  ·rw[h];exact hC k1 (by simp)
 ·rcases By.1 he with he|he
  ·rcases hf.mem _ e he with h|h
   ·exact q3 e h
   ·rw[h];exact hx
  ·exact le_of_lt (iI q4 (q2 e he))
 ·rcases By.1 he with he|he
  ·rcases hf.mem _ e he with h|h
   ·exact q5 c vG e h
   ·rw[h];exact hC c (by simp[vG])
  ·exact q6 c vG e he
 ·have h9:=hf.loc [] k0.L (k1.L++C.flatMap (·.L)) (by simp) (fun e he=>by
   rcases By.1 he with he|he
   ·exact iI (hC k1 (by simp)) (q2 e he)
   ·obtain⟨c,vG,he⟩:=abr.1 he
    exact iI (hC c (by simp[vG])) (q8 c vG e he))
  simpa using h9
theorem Jq{σ σ1:ag}{d:Nat}{A C:List Kd}{k0 k1:Kd}{X:List Nat}{f:List En->List En}{key:ByteArray}{xd:Pd}(hf:eJ key f)(hB:Kids σ d (A++[k0,k1]++C))(hN:((A++[k0,k1]++C).flatMap (·.P)++X).Nodup)
  (hC:∀c∈C,Nd.lt key c.key=true) (hx:Nd.lt key k1.key=false) (hm:aE (lc d) σ (k1.P++X) σ1 xd.P) (hp:Part σ1 d xd.cs xd.P (f k1.L)) (hs:Nd.sum (d==0) xd.cs<122) (hc:(d==0)=false->1<=xd.cs.length):
  ∃kX,σ1 k0.no=some ⟨if (d==0)then 1 else 2,Nd.str (d==0) kX⟩/\Nd.right (d==0) kX=true/\Nd.sum (d==0) kX<=488/\0<kX.length/\(∃xs,Uv σ d A [k0,k1] C X (f ((A++[k0,k1]++C).flatMap (·.L))) k0.key (cY σ1 k0.no none) (ck k0.key (d==0) (kX++Nd.first (d==0) k1.key xd.cs)) xs (k0.L++f k1.L))/\
   Nd.sum (d==0) (kX++Nd.first (d==0) k1.key xd.cs)<=750/\∀c∈kX++Nd.first (d==0) k1.key xd.cs,Nd.aL (d==0) c=true:=by
 obtain⟨n1,n2,s0,s1,t0,t1,q1,q2,q3,q4,q5,q6,q7,q8,f0,f1⟩:=B1 hB hN;obtain⟨kX,oP,e,g1,g2,g3,g4,g5,g6,g7,g8,g9,g10⟩:=uU hm f0 t0 n2;have MT:Part (cY σ1 k0.no none) d xd.cs xd.P (f k1.L):=hp.congr fun n hn=>dM _ _ (g6 n hn);refine⟨kX,g1,g8,g3,g9,?_⟩;refine Ca g2 MT q1 (fun e he=> ?_) s0 s1 (g7.perm ?_ adu) (fun e he=> ?_) (fun e he c vG=> ?_) ?_ (by omega) (by simp[g4]) (fun hd=>by have:=g5 hd;omega) (fun hd=> .inl (g10 hd))
 ·rcases hf.mem _ e he with h|h
  ·exact q2 e h
  ·rw[h];exact hx
 ·rw[aaa k0.P]
  exact adu
 ·rcases By.1 he with he|he
  ·exact q3 e he
  ·rcases hf.mem _ e he with h|h
   ·exact le_of_lt (iI q4 (q2 e h))
   ·rw[h];exact le_of_lt (iI q4 hx)
 ·rcases By.1 he with he|he
  ·exact q5 c vG e he
  ·rcases hf.mem _ e he with h|h
   ·exact q6 c vG e h
   ·rw[h];exact hC c vG
 ·have h9:=hf.loc (A.flatMap (·.L)++k0.L) k1.L (C.flatMap (·.L)) (fun e he=>by
   have h0:∀e:En,Nd.lt e.cell.key k1.key=true->Nd.lt e.cell.key key=true:=fun e h=>iI h hx;rcases By.1 he with he|he
   ·obtain⟨a,ha,he⟩:=abr.1 he
    exact h0 e (Nd.lt_trans (q7 a ha e he) q4)
   ·exact h0 e (q1 e he)) (fun e he=>by
   obtain⟨c,vG,he⟩:=abr.1 he;exact iI (hC c vG) (q8 c vG e he))
  simpa using h9
end Tr
namespace Tr
def dR (l:List En) (key:ByteArray):Nat:=Nd.spot (l.map (·.cell)) key
def lO (l:List En) (key:ByteArray):Bool:=Nd.has (l.map (·.cell)) key
def dB (key:ByteArray) (e:En) (l:List En):List En:=l.take (dR l key)++([e]++l.drop (if lO l key then dR l key+1 else dR l key))
theorem vm(l:List En)(key:ByteArray):dR l key<=l.length:=by have:=Nd.ic (l.map (·.cell)) key;rw[IS]at this;exact this
theorem jE(a b:List En)(key:ByteArray)(h1:∀x∈a,Nd.lt x.cell.key key=true)(h2:∀y t,b=y::t->Nd.lt y.cell.key key=false):dR (a++b) key=a.length:=by
 refine Nd.zB _ key a.length (by simp) (fun i h=> ?_) (fun h=> ?_)
 ·rw[acn,List.getElem_append_left h]
  exact h1 _ (List.getElem_mem h)
 ·rw[acn,List.getElem_append_right (AS _)]
  cases b with
  | nil=>simp at h
  | cons y t=>simpa using h2 y t rfl
theorem bl(key:ByteArray):∀(l:List En),∃a b,l=a++b/\(∀x∈a,Nd.lt x.cell.key key=true)/\(∀y t,b=y::t->Nd.lt y.cell.key key=false)
 | []=>⟨[],[],rfl,by simp,by simp⟩
 | x::l=>by
  cases hx:Nd.lt x.cell.key key with
  | true=>
   obtain⟨a,b,rfl,h1,h2⟩:=bl key l;exact⟨x::a,b,rfl,fun y hy=>by rcases OF.1 hy with rfl|hy;exact hx;exact h1 y hy,h2⟩
  | false=>exact⟨[],x::l,rfl,by simp,fun y t e=>by injection e with e1 e2;rw[<-e1];exact hx⟩
def rest (key:ByteArray):List En->List En
 | []=>[]
 | y::t=>if (y.cell.key.toList==key.toList)=true then t else y::t
theorem eu(a b:List En)(key:ByteArray)(e:En)(h1:∀x∈a,Nd.lt x.cell.key key=true)(h2:∀y t,b=y::t->Nd.lt y.cell.key key=false):dB key e (a++b)=a++([e]++rest key b):=by
 have hs:=jE a b key h1 h2;have hh:lO (a++b) key=(match b with|[]=>false|y::_=>y.cell.key.toList==key.toList):=by
  unfold lO Nd.has;rw[show Nd.spot ((a++b).map (·.cell)) key=a.length from hs,acC,abU (AS _),agj];cases b<;>rfl
 unfold dB;rw[hs,hh,adL];cases b with
 | nil=>simp[rest]
 | cons y t=>
  simp only[rest];split
  ·have:(a++y::t).drop (a.length+1)=t:=by rw[<-agC,afX];rfl
   rw[this]
  ·rw[afX]
theorem pA(key:ByteArray):∀(b:List En),∀x∈rest key b,x∈b
 | [],x,h=>h
 | y::t,x,h=>by
  simp only[rest]at h;split at h
  ·exact List.mem_cons_of_mem _ h
  ·exact h
theorem va(key:ByteArray):∀(b:List En),(rest key b).Sublist b
 | []=>agy _
 | y::t=>by
  simp only[rest];split
  ·exact List.sublist_cons_self _ _
  ·exact agy _
theorem pz{key:ByteArray}{b:List En}(hr:bj b)(h2:∀y t,b=y::t->Nd.lt y.cell.key key=false):∀x∈rest key b,Nd.lt key x.cell.key=true:=by
 cases b with
 | nil=>intro x hx;simp[rest]at hx
 | cons y t=>
  have h3:=h2 y t rfl;have h4:=acX.1 hr;intro x hx;simp only[rest]at hx;split at hx
  ·next he=>
   have he2:y.cell.key=key:=Nd.gD (by simpa using he);rw[<-he2];exact h4.1 x hx
  ·next he=>
   have hy:Nd.lt key y.cell.key=true:=by
    rcases Nd.iJ y.cell.key key with h|h|h
    ·rw[h3]at h;cases h
    ·exact absurd (by rw[h];simp) he
    ·exact h
   rcases OF.1 hx with rfl|hx
   ·exact hy
   ·exact Nd.lt_trans hy (h4.1 x hx)
theorem CA(key:ByteArray):∀(b:List En),Nd.sum true ((rest key b).map (·.cell))<=Nd.sum true (b.map (·.cell))
 | []=>AS _
 | y::t=>by
  simp only[rest];split
  ·rw[acm,Nd.sum_cons];omega
  ·exact AS _
theorem Fj(key:ByteArray)(e:En)(he:e.cell.key=key)(hs:Nd.size true e.cell<=223):eJ key (dB key e):=by
 refine⟨?_,?_,?_,?_⟩
 ·intro A l C hA hC
  obtain⟨a,b,rfl,h1,h2⟩:=bl key l;rw[eu a b key e h1 h2];have e0:A++(a++b)++C=(A++a)++(b++C):=by simp
  rw[e0,eu (A++a) (b++C) key e (fun x hx=>by rcases By.1 hx with hx|hx;exact hA x hx;exact h1 x hx) (fun y t hy=>by
   cases b with
   | nil=>
    rw[acI]at hy;exact Nd.lt_asymm (hC y (by rw[hy];simp))
   | cons y' t'=>
    injection hy with Na PB;rw[<-Na];exact h2 y' t' rfl)]
  have e1:rest key (b++C)=rest key b++C:=by
   cases b with
   | nil=>
    cases C with
    | nil=>rfl
    | cons z u=>
     show rest key (z::u)=z::u;simp only[rest];rw[if_neg (by rw[(Nd.B7 (hC z (by simp))).2];simp)]
   | cons y t=>
    show rest key (y::(t++C))=_;simp only[rest];split<;>simp
  rw[e1];simp
 ·intro l x hx
  obtain⟨a,b,rfl,h1,h2⟩:=bl key l;rw[eu a b key e h1 h2]at hx;rcases By.1 hx with hx|hx
  ·exact .inl (by simp[hx])
  ·rcases By.1 hx with hx|hx
   ·rw[IN.1 hx];exact .inr he
   ·exact .inl (by have:=pA key b x hx;simp[this])
 ·intro l hr
  obtain⟨a,b,rfl,h1,h2⟩:=bl key l;rw[eu a b key e h1 h2];obtain⟨r1,r2,r3⟩:=eZ hr;have hg:=pz r2 h2;refine List.pairwise_append.2 ⟨r1,acX.2 ⟨fun x hx=>by rw[he];exact hg x hx,afl (va key b) r2⟩,fun x hx y hy=> ?_⟩;rcases OF.1 hy with rfl|hy
  ·rw[he];exact h1 x hx
  ·exact Nd.lt_trans (h1 x hx) (hg y hy)
 ·intro l
  obtain⟨a,b,rfl,h1,h2⟩:=bl key l;rw[eu a b key e h1 h2];have e1:=Nd.mX true (a.map (·.cell)) ((e::rest key b).map (·.cell));have e2:=Nd.mX true (a.map (·.cell)) (b.map (·.cell));have e3:=CA key b;rw[<-abI]at e1 e2;rw[acm,Nd.sum_cons]at e1;show Nd.sum true ((a++(e::rest key b)).map (·.cell))<=_;omega
end Tr
namespace Tr
def eM (key:ByteArray) (l:List En):List En:=l.take (dR l key)++l.drop (if lO l key then dR l key+1 else dR l key)
theorem de(a b:List En)(key:ByteArray)(h1:∀x∈a,Nd.lt x.cell.key key=true)(h2:∀y t,b=y::t->Nd.lt y.cell.key key=false):eM key (a++b)=a++rest key b:=by
 have hs:=jE a b key h1 h2;have hh:lO (a++b) key=(match b with|[]=>false|y::_=>y.cell.key.toList==key.toList):=by
  unfold lO Nd.has;rw[show Nd.spot ((a++b).map (·.cell)) key=a.length from hs,acC,abU (AS _),agj];cases b<;>rfl
 unfold eM;rw[hs,hh,adL];cases b with
 | nil=>simp[rest]
 | cons y t=>
  simp only[rest];split
  ·have:(a++y::t).drop (a.length+1)=t:=by rw[<-agC,afX];rfl
   rw[this]
  ·rw[afX]
theorem DV(key:ByteArray):eJ key (eM key):=by
 refine⟨?_,?_,?_,?_⟩
 ·intro A l C hA hC
  obtain⟨a,b,rfl,h1,h2⟩:=bl key l;rw[de a b key h1 h2];have e0:A++(a++b)++C=(A++a)++(b++C):=by simp
  rw[e0,de (A++a) (b++C) key (fun x hx=>by rcases By.1 hx with hx|hx;exact hA x hx;exact h1 x hx) (fun y t hy=>by
   cases b with
   | nil=>
    rw[acI]at hy;exact Nd.lt_asymm (hC y (by rw[hy];simp))
   | cons y' t'=>
    injection hy with Na PB;rw[<-Na];exact h2 y' t' rfl)]
  have e1:rest key (b++C)=rest key b++C:=by
   cases b with
   | nil=>
    cases C with
    | nil=>rfl
    | cons z u=>
     show rest key (z::u)=z::u;simp only[rest];rw[if_neg (by rw[(Nd.B7 (hC z (by simp))).2];simp)]
   | cons y t=>
    show rest key (y::(t++C))=_;simp only[rest];split<;>simp
  rw[e1];simp
 ·intro l x hx
  obtain⟨a,b,rfl,h1,h2⟩:=bl key l;rw[de a b key h1 h2]at hx;rcases By.1 hx with hx|hx
  ·exact .inl (by simp[hx])
  ·exact .inl (by have:=pA key b x hx;simp[this])
 ·intro l hr
  obtain⟨a,b,rfl,h1,h2⟩:=bl key l;rw[de a b key h1 h2];exact afl (List.Sublist.append (agy a) (va key b)) hr
 ·intro l
  obtain⟨a,b,rfl,h1,h2⟩:=bl key l;rw[de a b key h1 h2];have e1:=Nd.mX true (a.map (·.cell)) ((rest key b).map (·.cell));have e2:=Nd.mX true (a.map (·.cell)) (b.map (·.cell));have e3:=CA key b;rw[<-abI]at e1 e2;show Nd.sum true ((a++rest key b).map (·.cell))<=_;omega
theorem UY{l:List En}{key:ByteArray}(hr:bj l)(h:∃e∈l,e.cell.key=key):lO l key=true:=by
 obtain⟨a,b,rfl,h1,h2⟩:=bl key l;obtain⟨e,he,hk⟩:=h;have hb:e∈b:=by
  rcases By.1 he with he|he
  ·have:=h1 e he
   rw[hk,Nd.lt_irrefl]at this;cases this
  ·exact he
 have hs:=jE a b key h1 h2;unfold lO Nd.has;rw[show Nd.spot ((a++b).map (·.cell)) key=a.length from hs,acC,abU (AS _),agj];cases b with
 | nil=>cases hb
 | cons y t=>
  have h3:=h2 y t rfl;rcases OF.1 hb with rfl|hb
  ·simp[hk]
  ·have:=(acX.1 (eZ hr).2.1).1 e hb
   rw[hk,h3]at this;cases this
theorem Qn{l:List En}{key:ByteArray}(h:lO l key=true):∃hi:dR l key<l.length,eM key l=l.take (dR l key)++l.drop (dR l key+1):=by
 have hi:dR l key<l.length:=by
  by_cases hl:dR l key<l.length
  ·exact hl
  ·unfold lO Nd.has at h
   rw[List.getElem?_eq_none (by rw[IS];exact Nat.le_of_not_lt hl)]at h;cases h
 refine⟨hi,?_⟩;unfold eM;rw[h];rfl
theorem yR{σ σ':ag}{l:List En}{i:Nat}{old:En}(hi:i<l.length)(ho:old=l[i])(hl:∀x∈l,Tr.eI σ x)(bI:(l.flatMap (·.aa)++([]:List Nat)).Nodup)(hm:Tr.Moved σ old.aa σ' []):
  Tr.Moved σ (l.flatMap (·.aa)++([]:List Nat)) σ' ((l.take i++l.drop (i+1)).flatMap (·.aa))/\∀x∈l.take i++l.drop (i+1),Tr.eI σ' x:=by
 obtain⟨a,b,oU,ha⟩:∃a b,l=a++(old::b)/\a=l.take i/\b=l.drop (i+1):=⟨l.take i,l.drop (i+1),by rw[ho,<-List.drop_eq_getElem_cons hi,abm],rfl,rfl⟩;rw[<-ha.1,<-ha.2];clear ha ho;subst oU;have zf:((a++old::b).flatMap (·.aa)++([]:List Nat)).Perm (old.aa++(a.flatMap (·.aa)++b.flatMap (·.aa))):=by
  rw[List.append_nil,Tr.aw,List.flatMap_cons,<-aaa,<-aaa];exact List.perm_append_comm.append_right _
 have jY:=zf.nodup_iff.1 bI;obtain⟨n1,n2,n3⟩:=aag.1 jY;have hR:∀n∈a.flatMap (·.aa)++b.flatMap (·.aa),σ n≠none:=fun n hn=>by
  rcases By.1 hn with hn|hn
  ·obtain⟨x,hx,hn⟩:=abr.1 hn
   exact((hl x (by simp[hx])).mem n hn).2.2
  ·obtain⟨x,hx,hn⟩:=abr.1 hn
   exact((hl x (by simp[hx])).mem n hn).2.2
 have hd:∀n∈a.flatMap (·.aa)++b.flatMap (·.aa),n∉old.aa:=fun n hn ho=>n3 n ho n hn rfl;have bU:=hm.frame hR n2 hd;have iE:=hm.same hR hd;refine⟨bU.perm zf.symm (by rw[acI,Tr.aw]),fun x hx=> ?_⟩;rcases By.1 hx with hx|hx
 ·exact(hl x (by simp[hx])).congr fun n hn=>iE n (By.2 (.inl (abr.2 ⟨x,hx,hn⟩)))
 ·exact(hl x (by simp[hx])).congr fun n hn=>iE n (By.2 (.inr (abr.2 ⟨x,hx,hn⟩)))
end Tr
end Go.Proofs.YtjbcbnemdhbhbaaGreatDoor
