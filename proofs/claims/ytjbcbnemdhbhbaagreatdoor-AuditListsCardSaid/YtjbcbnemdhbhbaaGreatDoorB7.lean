import Derived.Test.YtjbcbnemdhbhbaaGreatDoorB5
import Derived.Deep.RegionLaw
import Derived.StillTailTactics
import Derived.Test.YtjbcbnemdhbhbaaGreatDoorB6
set_option maxRecDepth 100000
set_option linter.unusedVariables false
set_option linter.unusedSimpArgs false
set_option maxHeartbeats 40000000
open Array renaming getElem?_toList→acP,toList_append→afC
open ByteArray renaming empty→aca
open Go renaming Value→IS,World→AI,info_parts→aco,maxLen→abi
open Go.IntWalk renaming i64_in→acu
open Go.Lib renaming hid→sh
open Go.Value renaming ownBlock→aaU,slice→acf
open List renaming append_assoc→OF,drop_left→afO,getElem?_append_right→abX,getElem_map→acx,length_append→BY,length_drop→abS,length_take→abv,map_append→abH,map_cons→acp,mem_append→AT,mem_cons→IT,mem_flatMap→abp,mem_map_of_mem→abR,mem_singleton→By,nodup_append→aai,nodup_cons→abN,pairwise_cons→adf,perm_append_comm→adB,take_append_drop→abm,take_left→adG
open List.Pairwise renaming sublist→afh
open List.Sublist renaming refl→agx
open Nat renaming le_refl→AS,min→aez,zero_add→abU
open Option renaming mem_toList→abz
namespace Go.Proofs.YtjbcbnemdhbhbaaGreatDoor
open Go.Proofs.Tryz
open Go.RowKit
def kq (l:List Ce) (i:Nat) (c:Ce):List Ce:=l.take i++([c]++l.drop i)
theorem iA(l:List Ce)(i:Nat)(c:Ce)(h:i<=l.length):(kq l i c).length=l.length+1:=by
 unfold kq;rw[BY,BY,abv,abS];simp;omega
theorem Es(A:Option Addr)(cap B b:Nat)(l:List Ce)(c:Ce)(w:AI)(h:aZ w B (.slice A l.length cap) l)(hB:B<=w.heap.size)(hl:l.length<=10000)(hc:Bk w b 170 #[.string c.key,.string c.val,.int .i64 c.over,.int .i64 c.size,.int .i64 c.child]):
  Calls prog 107 #[.slice A l.length cap,.int .i64 l.length,.slice (some ⟨b,0,none⟩) 1 1] w (xZ B (.slice A l.length cap) (l++[c]) w):=by
 obtain⟨i0,hi,ef,dK,dY⟩:=aco dX;obtain⟨r,Gk,qh⟩:=h.row;obtain⟨rA,rn,rc⟩:=r;simp only at Gk;injection Gk with e1 e2 e3;subst e1 e2 e3;have qg:=qh.2.1;have dC:=qh.2.2.1;simp only at qg dC;have DW:cap<=9223372036854775807:=by unfold abi at dC;omega
 have HO:=sh h;have Ub:=sh (show ∀(j:Nat) (u:IS),(ay [c])[j]? =some u->w.cell? ((⟨b,0,none⟩:Addr).add j)=some u from fun j u hu=>by
  rw[bI,abU,hc.cell j,<-acP];rw[fg]at hu;exact hu)
 have gH:=hc.lt;clear h qh dC hc;go_enter func107,ntmps107
 go_wp2_with (at_builtin;refine wpList_append_lies _ rfl (.tmp 23) (.tmp 24) 174 rfl B 170 i0 _ 5 56 underlying174 hi ef dK dY rfl (by omega) (.slice A l.length cap) l.length (ay l) rfl HO.out ⟨b,0,none⟩ 1 1 (ay [c]) rfl (bD [c]) Ub.out (dW [c]) (by omega) (by unfold abi;omega) (by omega) hB w.heap.size rfl ?_;intro gg gA w3 aw aF df tB)
 all_goals
  have jZ:aZ w3 B (.slice (some ⟨gg,0,none⟩) (l++[c]).length gA) (l++[c]):=by
   unfold aZ;rw[bR,BY];exact aw
  have vt:∀n m,(acf A n m).ownBlock=(acf A 0 0).ownBlock:=fun n m=>by cases A<;>rfl
  rw[vt]at aF df;have bG:=(ah.refl (acf A 0 0).ownBlock.toList w).grown aF (fun g hg=> .inl (by rw[abz];exact hg));go_ret
  exact⟨_,_,gA,fun g hg=>by rw[abz]at hg;rw[vt];exact hg,bG,by rw[BY];rfl,jZ,fun g hg=>by
   have e:gg=g:=by simpa[aaU]using hg
   subst e;rw[vt];rcases df with h9|h9
   ·exact .inl h9
   ·exact .inr (by omega)⟩
theorem J1(g i n:Nat)(L:List IS)(hL:L.length=i*5)(dv:i<=n)(hn:n<=10000)(W:AI)(hW:∀j u,L[j]? =some u->W.cell? ⟨g,j,none⟩=some u):
  ∃(c:Nat) (cur:Array IS) (W1:AI),n+1<=c/\c<=abi/\cur.size=c*5/\cur.toList.take (i*5)=L/\Bk W1 W.heap.size 170 cur/\Below W.heap.size W W1/\W1.heap.size=W.heap.size+1/\
   (Builtin.append_ #[174,3] 174 #[.slice (some ⟨g,0,none⟩) i n,.int .i64 ((n:Int)+1-(i:Int))]).run prog W= .ok (.slice (some ⟨W.heap.size,0,none⟩) (n+1) c) W1:=by
 obtain⟨i0,hi,ef,dK,dY⟩:=aco dX;have he:i+(n+1-i)=n+1:=by omega
 have Iu:=nextslicecap_le_wide (need:=i+(n+1-i)) (old:=n) (by omega);have hf:=run_firstCells_some (P:=prog) W.drew 5 i ⟨g,0,none⟩ i n L hL (fun j u hu=>by rw[bI,abU];exact hW j u hu);have h:=Lib.run_append_grow_zeros (P:=prog) W 174 3 174 170 i0 _ .i64 .i64 underlying174 underlying3 hi ef (some ⟨g,0,none⟩) i n L (by rw[dK];exact hf) (n+1-i) (by omega) (by rw[dK];omega) (by omega) (by omega) (by rw[dY];omega) (by rw[dY];have:=Nat.mul_le_mul_right 56 Iu;omega);rw[he,show ((n+1-i:Nat):Int)=(n:Int)+1-(i:Int)by omega]at h;have yt:=grownCap_ge W (n+1) n 170;refine⟨_,_,_,yt,grownCap_le_maxLen W (n+1) n _ (by unfold abi;omega),?_,?_,heap_alloc_new W.drew _,(Below.refl _ W).drew.alloc (AS _) _,by simp,h⟩
 ·have e5:(Value.agg #[.string aca,.string aca,.int .i64 0,.int .i64 0,.int .i64 0]).cells.size=5:=rfl
  simp only[Array.size_append,size_zeroCells,e5,List.size_toArray,hL];omega
 ·rw[afC,afC,OF,List.take_append_of_le_length (by simp[hL]),List.take_of_length_le (by simp[hL])]
theorem kf(g o rR DF:Nat)(a:Addr)(qC Cf:Nat)(cur:Array IS)(cs:List IS)(W:AI)(hg:Bk W g 170 cur)(hn:cs.length=aez qC rR*5)(A9:∀j v,cs[j]? =some v->W.cell? (a.add j)=some v)(gf:o+cs.length<=cur.size)(h1:∀v∈cs,v.oneCell'=true):
  ∃(v:IS) (W1:AI),Bk W1 g 170 (cur.toList.take o++cs++cur.toList.drop (o+cs.length)).toArray/\ah [g] W W1/\W1.heap.size=W.heap.size/\
   (Builtin.copy_ #[174,174] 3 #[.slice (some ⟨g,o,none⟩) rR DF,.slice (some a) qC Cf]).run prog W= .ok v W1:=by
 have hs:(prog.info? 170).map (·.size)=some 5:=by
  obtain⟨i0,hi,ef,dK,dY⟩:=aco dX;rw[hi];simp[dK]
 have h:=na (P:=prog) W 174 174 3 170 5 g o rR DF a qC Cf cur 170 cs underlying174 hs hg hn A9 gf h1;refine⟨_,_,setRow_heap W g cur _ _ _ hg,⟨rfl,rfl,rfl,by simp,fun k _ hk=>setRow_other W g k _ (fun e=>hk (by simp[e]))⟩,by simp,h⟩
theorem zI{W:AI}{b:Nat}{c:Ce}(hc:Bk W b 170 #[.string c.key,.string c.val,.int .i64 c.over,.int .i64 c.size,.int .i64 c.child]):∀j v,c.eH[j]? =some v->W.cell? ((⟨b,0,none⟩:Addr).add j)=some v:=fun j v hv=>by
 rw[bI,abU,hc.cell j,<-acP];exact hv
theorem Cy(c:Ce):∀v∈c.eH,v.oneCell'=true:=by
 intro v hv;simp[Ce.eH]at hv;rcases hv with rfl|rfl|rfl|rfl|rfl<;>rfl
theorem wT(l:List Ce)(i:Nat)(c:Ce):ay (kq l i c)=ay (l.take i)++(c.eH++ay (l.drop i)):=by
 unfold kq;rw[bR,bR,fg];rfl
theorem sY{W:AI}{g i n:Nat}{l:List Ce}(hF:∀(j:Nat) (u:IS),(ay l)[j]? =some u->W.cell? ⟨g,j,none⟩=some u)(hi:i<=l.length):∀j v,(ay (l.drop i))[j]? =some v->W.cell? ((⟨g,i*5,none⟩:Addr).add j)=some v:=fun j v hv=>by
 rw[bI];have e:ay l=ay (l.take i)++ay (l.drop i):=by rw[<-bR,abm]
 have hl:(ay (l.take i)).length=i*5:=by rw[bD,abv];omega
 refine hF _ _ ?_;rw[e,abX (by omega),hl]
 rwa [show i*5+j-i*5=j by omega]
theorem Bo(g B b i:Nat)(l:List Ce)(c:Ce)(w:AI)(h:aZ w B (.slice (some ⟨g,0,none⟩) l.length l.length) l)(hB:B<=w.heap.size)(hi:i<l.length)(hl:l.length<=10000)(hc:Bk w b 170 #[.string c.key,.string c.val,.int .i64 c.over,.int .i64 c.size,.int .i64 c.child]):
  Calls prog 107 #[.slice (some ⟨g,0,none⟩) l.length l.length,.int .i64 i,.slice (some ⟨b,0,none⟩) 1 1] w (xZ B (.slice (some ⟨g,0,none⟩) l.length l.length) (kq l i c) w):=by
 have bc:∃r:Rw,acf (some ⟨g,0,none⟩) l.length l.length= .slice r.A r.n r.c/\aV w (fun b=>B<=b) r l:=h.row;obtain⟨⟨rA,rn,rc⟩,Gk,qh⟩:=bc;simp only at Gk;injection Gk with e1 e2 e3;subst e1 e2 e3;have hF:∀(j:Nat) (u:IS),(ay l)[j]? =some u->w.cell? ⟨g,j,none⟩=some u:=fun j u hu=>by
  have:=qh.flat rfl j u hu
  rwa [abU]at this
 obtain⟨b9,o9,uQ,OT,-⟩:=qh.at 0 (by omega);injection uQ with uQ;injection uQ with e1 e2;subst e1;clear e2;have pH:=OT.2;have ey:(ay (l.take i)).length=i*5:=by rw[bD,abv];omega
 have pG:(ay (l.drop i)).length=(l.length-i)*5:=by rw[bD,abS]
 obtain⟨k,cur,W1,dw,bO,dx,fE,ar,vi,pK,cm⟩:=J1 g i l.length (ay (l.take i)) ey (by omega) hl w (fun j u hu=>by
  have aI:j<(ay (l.take i)).length:=(List.getElem?_eq_some_iff.1 hu).1;have:(ay l)[j]? =some u:=by
   rw[<-abm i l,bR,List.getElem?_append_left aI];exact hu
  exact hF j u this)
 obtain⟨v2,W2,az,DT,jw,lT⟩:=kf w.heap.size (i*5) (l.length+1-i) (k-i) ⟨b,0,none⟩ 1 1 cur c.eH W1 ar (by rw[show aez 1 (l.length+1-i)=1 by show min 1 _=1;omega];rfl) (zI (af hc vi)) (by rw[dx];show i*5+5<=_;omega) (Cy c);have Zd:∀(j:Nat) (u:IS),(ay l)[j]? =some u->W2.drew.cell? ⟨g,j,none⟩=some u:=fun j u hu=>(DT.cell (p:=⟨g,j,none⟩) (by show g<_;omega) (by simp;omega)).trans ((vi.cell (p:=⟨g,j,none⟩) pH).trans (hF j u hu));obtain⟨v3,W3,aQ,UU,oo,AZ⟩:=kf w.heap.size ((i+1)*5) (l.length-i) (k-(i+1)) ⟨g,i*5,none⟩ (l.length-i) (l.length-i) _ (ay (l.drop i)) W2.drew az.drew (by rw[pG,show aez (l.length-i) (l.length-i)=l.length-i by show min _ _=_;omega]) (sY (n:=l.length) Zd (by omega)) (by simp;rw[pG,dx];show _<=_;have:c.eH.length=5:=rfl;omega) (dW _);have KN:=sh cm;have KO:=sh lT;have KP:=sh AZ;have Qz:k<=9223372036854775807:=by unfold abi at bO;omega
 have Gn:IntKind.i64.wrap ((l.length:Int)+1-(i:Int))=(l.length:Int)+1-(i:Int):=acu _ (by omega);have z1:((i:Int)==(l.length:Int))=false:=by rw[beq_eq_false_iff_ne];omega
 have z2:(i==l.length)=false:=by rw[beq_eq_false_iff_ne];omega
 have z3:¬ (k=i):=by omega
 have z4:¬ (l.length=i):=by omega
 have z5:(i:Int)<=(l.length:Int)+1:=by omega
 have z6:i<=l.length+1:=by omega
 have z7:¬ (k=i+1):=by omega
 have QU:IntKind.i64.wrap ((i:Int)+1)=(i:Int)+1:=acu _ (by omega);have z8:(i:Int)+1<=(l.length:Int)+1:=by omega
 have z9:(0:Int)<=(i:Int)+1:=by omega
 have z10:((i:Int)+1).toNat=i+1:=by omega
 have z11:i+1<=l.length+1:=by omega
 have z12:(i:Int)<=(l.length:Int):=by omega
 have bV:=sh (show aZ W3 B (.slice (some ⟨w.heap.size,0,none⟩) (kq l i c).length k) (kq l i c)by
  refine⟨by rw[bD],.inr ⟨w.heap.size,k,_,rfl,hB,aQ,by rw[iA _ _ _ (by omega)];omega,bO,?_,?_⟩⟩
  ·simp;rw[pG,dx];have:c.eH.length=5:=rfl;omega
  ·rw[wT,iA _ _ _ (by omega)]
   have h5:c.eH.length=5:=rfl;have ht5:(cur.toList.take (i*5)++c.eH).length=(i+1)*5:=by rw[BY,fE,ey,h5];omega
   have e1:(cur.toList.take (i*5)++c.eH++cur.toList.drop (i*5+c.eH.length)).toArray.toList.take ((i+1)*5)=cur.toList.take (i*5)++c.eH:=by
    show List.take _ (_++_++_)=_;rw[<-ht5];exact adG
   rw[e1,fE];show List.take _ ((ay (l.take i)++c.eH++ay (l.drop i)++_))=_;rw[show ay (l.take i)++(c.eH++ay (l.drop i))=ay (l.take i)++c.eH++ay (l.drop i)by rw[OF]];rw[show (l.length+1)*5=(ay (l.take i)++c.eH++ay (l.drop i)).length by rw[BY,BY,ey,h5,pG];omega];exact adG)
 have nk:=sh (show ah [] w W3 from (((ah.ae vi []).then DT (fun x hx=> .inr (by simp at hx;omega))).drew).then UU (fun x hx=> .inr (by simp at hx;omega)));clear h qh hF OT cm lT AZ bO dx fE hc ar az aQ DT UU Zd ey pG vi pK jw oo;go_enter func107,ntmps107
 go_upto_region 10 with(at_builtin;refine wpList_append_run rfl (.tmp 34) (.tmp 39) 174 3 rfl _ _ _ _ rfl rfl KN.out ?_)
 go_upto_region 11 with(refine bU (o:=⟨some 45,_,_,_,_,_⟩) rfl (.tmp 43) (.tmp 44) 174 174 rfl _ _ _ _ rfl rfl KO.out ?_)
 go_still_tail 8,(by kernel_rfl)
 change wpList _ _ _ _ _ W2.drew
 refine bU rfl (.tmp 50) (.tmp 53) 174 174 rfl _ _ _ _ rfl rfl KP.out ?_;go_wp2_with fail
 go_ret
 exact⟨[],_,k,by simp,nk.out,by rw[iA _ _ _ (by omega)];rfl,bV.out,fun x hx=> .inr (Nat.le_of_eq (by simpa[aaU]using hx))⟩
namespace Tr
theorem EO{σ :ag}{d:Nat}{cs:List Ce}{P:List Nat}{L:List En}(h:Part σ d cs P L)(key:ByteArray)(hk:∀e∈L,Nd.lt e.cell.key key=false)(jb:key.size<=120)(hs:Nd.sum (d==0) cs<=750)(hg:Good (d==0) cs L/\GY d L):
  ∃xs,Parts σ d key (ct key (d==0) cs) P L xs/\∀x∈xs,Good (d==0) x.cs x.L/\GY d x.L:=by
 obtain⟨xs,hp⟩:=h.parts key hk jb hs;refine⟨xs,hp,?_⟩;rcases hp.count with h1|⟨-,h1⟩
 ·obtain⟨x,e,-,-,h2,h3,-,-⟩:=hp.one h1
  subst e;intro y hy;obtain rfl:=By.1 hy;have h4:cs=y.cs:=by
   have h5:=hp.Ws;unfold ct at h5;split at h5
   ·simp[Pd.pt]at h5;exact h5.2
   ·simp at h5
  rw[<-h4,<-h2];exact hg
 ·exact h1
theorem BD{σ σ2:ag}{d:Nat}{A C:List Kd}{k0 k1:Kd}{X:List Nat}{F:List En}{a b:List Ce}{Pa Pb:List Nat}{La Lb:List En}(ha:Part σ2 d a Pa La)(hb:Part σ2 d b Pb Lb)(h1:∀e∈La,Nd.lt e.cell.key k1.key=true)(h2:∀e∈Lb,Nd.lt e.cell.key k1.key=false)
  (oe:k0.key.size<=120) (dw:k1.key.size<=120) (hm:aE (lc d) σ (k0.P++k1.P++X) σ2 (Pa++Pb)) (yv:∀e∈La++Lb,Nd.lt e.cell.key k0.key=false) (zl:∀e∈La++Lb,∀c∈C,Nd.lt e.cell.key c.key=true) (heq:F=A.flatMap (·.L)++(La++Lb)++C.flatMap (·.L))
  (hs:Nd.sum (d==0) a+Nd.sum (d==0) b<=612) (hg:La++Lb≠[]) (tA:(d==0)=false->2<=a.length+b.length) (AE:d=0->122<=Nd.sum true a\/122<=Nd.sum true b):
  (∃xs,Uz σ d A [k0,k1] C X F k0.key σ2 (ct k0.key (d==0) (a++Nd.first (d==0) k1.key b)) xs (La++Lb))/\Nd.sum (d==0) (a++Nd.first (d==0) k1.key b)<=750/\∀c∈a++Nd.first (d==0) k1.key b,Nd.aP (d==0) c=true:=by
 have hj:=ha.join hb h1 h2 dw;have dJ:Nd.sum (d==0) (a++Nd.first (d==0) k1.key b)<=750:=by
  have e1:=Nd.mP (d==0) a (Nd.first (d==0) k1.key b);have e2:=Nd.xz (d==0) k1.key b;omega
 obtain⟨xs,hx,hgx⟩:=EO hj k0.key yv oe dJ ⟨⟨hg,fun hd=>by rw[BY,Nd.ij];exact tA hd⟩,fun hd=>by
  subst hd;have e1:=hj.1;rw[<-e1];have e2:=Nd.mP true a b;have e3:=Nd.e8 true a;have e4:=Nd.e8 true b;have e5:=AE rfl;show 122<=Nd.sum true (a++b);omega⟩
 exact⟨⟨xs,⟨k0,[k1],rfl,rfl⟩,⟨_,hx,by simpa using hm⟩,zl,heq,hgx⟩,dJ,hj.right.2⟩
theorem tZ{σ σ1:ag}{d:Nat}{x o:Kd}{X P1:List Nat}{cN:Nat}(hm:aE cN σ (x.P++X) σ1 P1)(bS:GY d o.L)(ho:aJ σ d o.no o.P o.L)(hN:(x.P++X++o.P).Nodup):
  ∃(kZ:List Ce) (oP:List Nat),o.P=o.no::oP/\ σ1 o.no=some ⟨if (d==0)then 1 else 2,Nd.str (d==0) kZ⟩/\Part (cY σ1 o.no none) d kZ oP o.L/\Nd.sum (d==0) kZ<=488/\o.L≠[]/\((d==0)=false->2<=kZ.length)/\(∀n∈P1,n≠o.no)/\aE cN σ (x.P++X++o.P) (cY σ1 o.no none) (P1++oP)/\Nd.right (d==0) kZ=true/\0<kZ.length/\(d=0->122<=Nd.sum true kZ):=by
 obtain⟨h1,h2,h3⟩:=aai.1 hN;have kT:=fun n hn=>(ho.mem n hn).2.2;have Qs:∀n∈o.P,n∉x.P++X:=fun n hn hm=>h3 n hm n hn rfl;have iy:=hm.same kT Qs;have bZ:=hm.frame kT h2 Qs;have qW:=ho.congr iy;obtain⟨kZ,oP,e,g1,g2,g3,g4,g5,g6,g7⟩:=qW;have iP:o.no∉P1++oP:=by
  have cg:=bZ.nodup;rw[e]at cg;obtain⟨q1,q2,q3⟩:=aai.1 cg;intro hh;rcases AT.1 hh with hh|hh
  ·exact q3 _ hh _ (by simp) rfl
  ·exact(abN.1 q2).1 hh
 have kJ:∀n∈P1++oP,cY σ1 o.no none n= σ1 n:=fun n hn=>dM _ _ (fun e=>iP (by rw[<-e];exact hn));refine⟨kZ,oP,e,g3,g4.congr fun n hn=>kJ n (by simp[hn]),g5,g6,g7,fun n hn e=>iP (by rw[<-e];simp[hn]),?_,g4.right.1,?_,fun hd=> ?_⟩
 ·refine aE.more (c:=cN+0) (bZ.trans ?_) (AS _)
  have f1:=(aE.drop σ1 o.no).frame (R:=P1++oP) (fun n hn=>bZ.there n (by rw[e];rcases AT.1 hn with hn|hn<;>simp[hn])) (by
   have cg:=bZ.nodup;rw[e]at cg;obtain⟨q1,q2,q3⟩:=aai.1 cg;exact aai.2 ⟨q1,(abN.1 q2).2,fun a ha b hb=>q3 a ha b (by simp[hb])⟩) (fun n hn=>by simp;rintro rfl;exact iP hn)
  refine f1.perm ?_ ?_
  ·rw[e,List.singleton_append]
   exact List.perm_middle.symm
  ·simp
 ·cases d with
  | zero=>
   obtain⟨q1,-⟩:=g4;cases kZ with
   | nil=>cases hL:o.L with
    | nil=>exact absurd hL g6
    | cons a t=>rw[hL]at q1;simp at q1
   | cons a t=>simp
  | succ d=>have:=g7 rfl;omega
 ·subst hd
  rw[g4.1];exact bS rfl
theorem Bu{σ :ag}{d:Nat}{A C:List Kd}{k0 k1:Kd}{X:List Nat}(hB:Kids σ d (A++[k0,k1]++C))(hN:((A++[k0,k1]++C).flatMap (·.P)++X).Nodup):
  (k0.P++X++k1.P).Nodup/\(k1.P++X++k0.P).Nodup/\k0.key.size<=120/\k1.key.size<=120/\aJ σ d k0.no k0.P k0.L/\aJ σ d k1.no k1.P k1.L/\(∀e∈k0.L,Nd.lt e.cell.key k1.key=true)/\(∀e∈k1.L,Nd.lt e.cell.key k1.key=false)/\(∀e∈k0.L,Nd.lt e.cell.key k0.key=false)/\
   Nd.lt k0.key k1.key=true/\(∀c∈C,∀e∈k0.L,Nd.lt e.cell.key c.key=true)/\(∀c∈C,∀e∈k1.L,Nd.lt e.cell.key c.key=true)/\(∀a∈A,∀e∈a.L,Nd.lt e.cell.key k0.key=true)/\(∀c∈C,∀e∈c.L,Nd.lt e.cell.key c.key=false)/\GY d k0.L/\GY d k1.L:=by
 have h0:=hB.each k0 (by simp);have h1:=hB.each k1 (by simp);have hs:=hB.sep;rw[abH,abH,eU,eU]at hs;obtain⟨⟨sA,sM,sAM⟩,sC,sMC⟩:=hs;rw[acp,fJ]at sM;obtain⟨⟨m1,m2⟩,m3⟩:=sM;have q01:=m1 k1.rg (by simp);obtain⟨z,t,hz⟩:=List.exists_cons_of_ne_nil h0.2.ne;have hz:z∈k0.L:=by rw[hz];simp
 have hp:(k0.P++X++k1.P).Nodup/\(k1.P++X++k0.P).Nodup:=by
  have e:((A++[k0,k1]++C).flatMap (·.P)++X)=A.flatMap (·.P)++(k0.P++(k1.P++(C.flatMap (·.P)++X))):=by
   simp
  rw[e]at hN;have n1:=(aai.1 hN).2.1;obtain⟨a1,a2,a3⟩:=aai.1 n1;obtain⟨b1,b2,b3⟩:=aai.1 a2;obtain⟨c1,c2,c3⟩:=aai.1 b2;constructor
  ·refine aai.2 ⟨aai.2 ⟨a1,c2,fun a ha b hb=>a3 a ha b (by simp[hb])⟩,b1,fun a ha b hb=> ?_⟩
   rcases AT.1 ha with ha|ha
   ·exact a3 a ha b (by simp[hb])
   ·exact fun e=>b3 b hb a (by simp[ha]) e.symm
  ·refine aai.2 ⟨aai.2 ⟨b1,c2,fun a ha b hb=>b3 a ha b (by simp[hb])⟩,a1,fun a ha b hb=> ?_⟩
   rcases AT.1 ha with ha|ha
   ·exact fun e=>a3 b hb a (by simp[ha]) e.symm
   ·exact fun e=>a3 b hb a (by simp[ha]) e.symm
 exact⟨hp.1,hp.2,h0.1.1,h1.1.1,h0.2,h1.2,q01,m3.2 k1.rg (by simp),m2,Bx (m2 z hz) (q01 z hz),fun c hc e he=>sMC k0.rg (by simp) c.rg (abR hc) e he,fun c hc e he=>sMC k1.rg (by simp) c.rg (abR hc) e he,
  fun a ha e he=>sAM a.rg (abR ha) k0.rg (by simp) e he,fun c hc e he=>sC.2 c.rg (abR hc) e he,h0.1.2,h1.1.2⟩
theorem Ja{σ σ1:ag}{d:Nat}{C:List Kd}{k0 k1:Kd}{X:List Nat}{f:List En->List En}{key:ByteArray}{xd:Pd}(hf:eK key f)(hB:Kids σ d ([]++[k0,k1]++C))(hN:(([]++[k0,k1]++C:List Kd).flatMap (·.P)++X).Nodup)
  (hC:∀c∈k1::C,Nd.lt key c.key=true) (hx:Nd.lt key k0.key=false) (hm:aE (lc d) σ (k0.P++X) σ1 xd.P) (hp:Part σ1 d xd.cs xd.P (f k0.L)) (hs:Nd.sum (d==0) xd.cs<122) (hc:(d==0)=false->1<=xd.cs.length):
  ∃kZ,σ1 k1.no=some ⟨if (d==0)then 1 else 2,Nd.str (d==0) kZ⟩/\Nd.right (d==0) kZ=true/\Nd.sum (d==0) kZ<=488/\0<kZ.length/\(∃xs,Uz σ d [] [k0,k1] C X (f (([]++[k0,k1]++C:List Kd).flatMap (·.L))) k0.key (cY σ1 k1.no none) (ct k0.key (d==0) (xd.cs++Nd.first (d==0) k1.key kZ)) xs (f k0.L++k1.L))/\
   Nd.sum (d==0) (xd.cs++Nd.first (d==0) k1.key kZ)<=750/\∀c∈xd.cs++Nd.first (d==0) k1.key kZ,Nd.aP (d==0) c=true:=by
 obtain⟨n1,n2,s0,s1,t0,t1,q1,q2,q3,q4,q5,q6,q7,q8,f0,f1⟩:=Bu hB hN;obtain⟨kZ,oP,e,g1,g2,g3,g4,g5,g6,g7,g8,g9,g10⟩:=tZ hm f1 t1 n1;have MC:Part (cY σ1 k1.no none) d xd.cs xd.P (f k0.L):=hp.congr fun n hn=>dM _ _ (g6 n hn);refine⟨kZ,g1,g8,g3,g9,?_⟩;refine BD MC g2 (fun e he=> ?_) q2 s0 s1 (g7.perm (by rw[OF,OF];exact List.Perm.append_left _ adB) (List.Perm.refl _)) (fun e he=> ?_) (fun e he c uR=> ?_) ?_ (by omega) (by simp[g4]) (fun hd=>by have:=g5 hd;omega) (fun hd=> .inr (g10 hd))
 ·rcases hf.mem _ e he with h|h
  ·exact q1 e h
  ·rw[h];exact hC k1 (by simp)
 ·rcases AT.1 he with he|he
  ·rcases hf.mem _ e he with h|h
   ·exact q3 e h
   ·rw[h];exact hx
  ·exact le_of_lt (iE q4 (q2 e he))
 ·rcases AT.1 he with he|he
  ·rcases hf.mem _ e he with h|h
   ·exact q5 c uR e h
   ·rw[h];exact hC c (by simp[uR])
  ·exact q6 c uR e he
 ·have h9:=hf.loc [] k0.L (k1.L++C.flatMap (·.L)) (by simp) (fun e he=>by
   rcases AT.1 he with he|he
   ·exact iE (hC k1 (by simp)) (q2 e he)
   ·obtain⟨c,uR,he⟩:=abp.1 he
    exact iE (hC c (by simp[uR])) (q8 c uR e he))
  simpa using h9
theorem Jb{σ σ1:ag}{d:Nat}{A C:List Kd}{k0 k1:Kd}{X:List Nat}{f:List En->List En}{key:ByteArray}{xd:Pd}(hf:eK key f)(hB:Kids σ d (A++[k0,k1]++C))(hN:((A++[k0,k1]++C).flatMap (·.P)++X).Nodup)
  (hC:∀c∈C,Nd.lt key c.key=true) (hx:Nd.lt key k1.key=false) (hm:aE (lc d) σ (k1.P++X) σ1 xd.P) (hp:Part σ1 d xd.cs xd.P (f k1.L)) (hs:Nd.sum (d==0) xd.cs<122) (hc:(d==0)=false->1<=xd.cs.length):
  ∃kZ,σ1 k0.no=some ⟨if (d==0)then 1 else 2,Nd.str (d==0) kZ⟩/\Nd.right (d==0) kZ=true/\Nd.sum (d==0) kZ<=488/\0<kZ.length/\(∃xs,Uz σ d A [k0,k1] C X (f ((A++[k0,k1]++C).flatMap (·.L))) k0.key (cY σ1 k0.no none) (ct k0.key (d==0) (kZ++Nd.first (d==0) k1.key xd.cs)) xs (k0.L++f k1.L))/\
   Nd.sum (d==0) (kZ++Nd.first (d==0) k1.key xd.cs)<=750/\∀c∈kZ++Nd.first (d==0) k1.key xd.cs,Nd.aP (d==0) c=true:=by
 obtain⟨n1,n2,s0,s1,t0,t1,q1,q2,q3,q4,q5,q6,q7,q8,f0,f1⟩:=Bu hB hN;obtain⟨kZ,oP,e,g1,g2,g3,g4,g5,g6,g7,g8,g9,g10⟩:=tZ hm f0 t0 n2;have MC:Part (cY σ1 k0.no none) d xd.cs xd.P (f k1.L):=hp.congr fun n hn=>dM _ _ (g6 n hn);refine⟨kZ,g1,g8,g3,g9,?_⟩;refine BD g2 MC q1 (fun e he=> ?_) s0 s1 (g7.perm ?_ adB) (fun e he=> ?_) (fun e he c uR=> ?_) ?_ (by omega) (by simp[g4]) (fun hd=>by have:=g5 hd;omega) (fun hd=> .inl (g10 hd))
 ·rcases hf.mem _ e he with h|h
  ·exact q2 e h
  ·rw[h];exact hx
 ·rw[OF k0.P]
  exact adB
 ·rcases AT.1 he with he|he
  ·exact q3 e he
  ·rcases hf.mem _ e he with h|h
   ·exact le_of_lt (iE q4 (q2 e h))
   ·rw[h];exact le_of_lt (iE q4 hx)
 ·rcases AT.1 he with he|he
  ·exact q5 c uR e he
  ·rcases hf.mem _ e he with h|h
   ·exact q6 c uR e h
   ·rw[h];exact hC c uR
 ·have h9:=hf.loc (A.flatMap (·.L)++k0.L) k1.L (C.flatMap (·.L)) (fun e he=>by
   have h0:∀e:En,Nd.lt e.cell.key k1.key=true->Nd.lt e.cell.key key=true:=fun e h=>iE h hx;rcases AT.1 he with he|he
   ·obtain⟨a,ha,he⟩:=abp.1 he
    exact h0 e (Nd.lt_trans (q7 a ha e he) q4)
   ·exact h0 e (q1 e he)) (fun e he=>by
   obtain⟨c,uR,he⟩:=abp.1 he;exact iE (hC c uR) (q8 c uR e he))
  simpa using h9
end Tr
namespace Tr
def dR (l:List En) (key:ByteArray):Nat:=Nd.spot (l.map (·.cell)) key
def lI (l:List En) (key:ByteArray):Bool:=Nd.has (l.map (·.cell)) key
def dL (key:ByteArray) (e:En) (l:List En):List En:=l.take (dR l key)++([e]++l.drop (if lI l key then dR l key+1 else dR l key))
theorem uw(l:List En)(key:ByteArray):dR l key<=l.length:=by have:=Nd.hJ (l.map (·.cell)) key;rw[List.length_map]at this;exact this
theorem jz(a b:List En)(key:ByteArray)(h1:∀x∈a,Nd.lt x.cell.key key=true)(h2:∀y t,b=y::t->Nd.lt y.cell.key key=false):dR (a++b) key=a.length:=by
 refine Nd.yS _ key a.length (by simp) (fun i h=> ?_) (fun h=> ?_)
 ·rw[acx,List.getElem_append_left h]
  exact h1 _ (List.getElem_mem h)
 ·rw[acx,List.getElem_append_right (AS _)]
  cases b with
  | nil=>simp at h
  | cons y t=>simpa using h2 y t rfl
theorem bj(key:ByteArray):∀(l:List En),∃a b,l=a++b/\(∀x∈a,Nd.lt x.cell.key key=true)/\(∀y t,b=y::t->Nd.lt y.cell.key key=false)
 | []=>⟨[],[],rfl,by simp,by simp⟩
 | x::l=>by
  cases hx:Nd.lt x.cell.key key with
  | true=>
   obtain⟨a,b,rfl,h1,h2⟩:=bj key l;exact⟨x::a,b,rfl,fun y hy=>by rcases IT.1 hy with rfl|hy;exact hx;exact h1 y hy,h2⟩
  | false=>exact⟨[],x::l,rfl,by simp,fun y t e=>by injection e with e1 e2;rw[<-e1];exact hx⟩
def rest (key:ByteArray):List En->List En
 | []=>[]
 | y::t=>if (y.cell.key.toList==key.toList)=true then t else y::t
theorem et(a b:List En)(key:ByteArray)(e:En)(h1:∀x∈a,Nd.lt x.cell.key key=true)(h2:∀y t,b=y::t->Nd.lt y.cell.key key=false):dL key e (a++b)=a++([e]++rest key b):=by
 have hs:=jz a b key h1 h2;have hh:lI (a++b) key=(match b with|[]=>false|y::_=>y.cell.key.toList==key.toList):=by
  unfold lI Nd.has;rw[show Nd.spot ((a++b).map (·.cell)) key=a.length from hs,List.getElem?_map,abX (AS _),Nat.sub_self];cases b<;>rfl
 unfold dL;rw[hs,hh,adG];cases b with
 | nil=>simp[rest]
 | cons y t=>
  simp only[rest];split
  ·have:(a++y::t).drop (a.length+1)=t:=by rw[<-List.drop_drop,afO];rfl
   rw[this]
  ·rw[afO]
theorem pr(key:ByteArray):∀(b:List En),∀x∈rest key b,x∈b
 | [],x,h=>h
 | y::t,x,h=>by
  simp only[rest]at h;split at h
  ·exact List.mem_cons_of_mem _ h
  ·exact h
theorem ui(key:ByteArray):∀(b:List En),(rest key b).Sublist b
 | []=>agx _
 | y::t=>by
  simp only[rest];split
  ·exact List.sublist_cons_self _ _
  ·exact agx _
theorem pq{key:ByteArray}{b:List En}(hr:bB b)(h2:∀y t,b=y::t->Nd.lt y.cell.key key=false):∀x∈rest key b,Nd.lt key x.cell.key=true:=by
 cases b with
 | nil=>intro x hx;simp[rest]at hx
 | cons y t=>
  have h3:=h2 y t rfl;have h4:=adf.1 hr;intro x hx;simp only[rest]at hx;split at hx
  ·next he=>
   have he2:y.cell.key=key:=Nd.gx (by simpa using he);rw[<-he2];exact h4.1 x hx
  ·next he=>
   have hy:Nd.lt key y.cell.key=true:=by
    rcases Nd.iF y.cell.key key with h|h|h
    ·rw[h3]at h;cases h
    ·exact absurd (by rw[h];simp) he
    ·exact h
   rcases IT.1 hx with rfl|hx
   ·exact hy
   ·exact Nd.lt_trans hy (h4.1 x hx)
theorem B6(key:ByteArray):∀(b:List En),Nd.sum true ((rest key b).map (·.cell))<=Nd.sum true (b.map (·.cell))
 | []=>AS _
 | y::t=>by
  simp only[rest];split
  ·rw[acp,Nd.sum_cons];omega
  ·exact AS _
theorem EU(key:ByteArray)(e:En)(he:e.cell.key=key)(hs:Nd.size true e.cell<=223):eK key (dL key e):=by
 refine⟨?_,?_,?_,?_⟩
 ·intro A l C hA hC
  obtain⟨a,b,rfl,h1,h2⟩:=bj key l;rw[et a b key e h1 h2];have e0:A++(a++b)++C=(A++a)++(b++C):=by simp
  rw[e0,et (A++a) (b++C) key e (fun x hx=>by rcases AT.1 hx with hx|hx;exact hA x hx;exact h1 x hx) (fun y t hy=>by
   cases b with
   | nil=>
    rw[List.nil_append]at hy;exact Nd.lt_asymm (hC y (by rw[hy];simp))
   | cons y' t'=>
    injection hy with MR O8;rw[<-MR];exact h2 y' t' rfl)]
  have e1:rest key (b++C)=rest key b++C:=by
   cases b with
   | nil=>
    cases C with
    | nil=>rfl
    | cons z u=>
     show rest key (z::u)=z::u;simp only[rest];rw[if_neg (by rw[(Nd.BB (hC z (by simp))).2];simp)]
   | cons y t=>
    show rest key (y::(t++C))=_;simp only[rest];split<;>simp
  rw[e1];simp
 ·intro l x hx
  obtain⟨a,b,rfl,h1,h2⟩:=bj key l;rw[et a b key e h1 h2]at hx;rcases AT.1 hx with hx|hx
  ·exact .inl (by simp[hx])
  ·rcases AT.1 hx with hx|hx
   ·rw[By.1 hx];exact .inr he
   ·exact .inl (by have:=pr key b x hx;simp[this])
 ·intro l hr
  obtain⟨a,b,rfl,h1,h2⟩:=bj key l;rw[et a b key e h1 h2];obtain⟨r1,r2,r3⟩:=eZ hr;have hg:=pq r2 h2;refine List.pairwise_append.2 ⟨r1,adf.2 ⟨fun x hx=>by rw[he];exact hg x hx,afh (ui key b) r2⟩,fun x hx y hy=> ?_⟩;rcases IT.1 hy with rfl|hy
  ·rw[he];exact h1 x hx
  ·exact Nd.lt_trans (h1 x hx) (hg y hy)
 ·intro l
  obtain⟨a,b,rfl,h1,h2⟩:=bj key l;rw[et a b key e h1 h2];have e1:=Nd.mP true (a.map (·.cell)) ((e::rest key b).map (·.cell));have e2:=Nd.mP true (a.map (·.cell)) (b.map (·.cell));have e3:=B6 key b;rw[<-abH]at e1 e2;rw[acp,Nd.sum_cons]at e1;show Nd.sum true ((a++(e::rest key b)).map (·.cell))<=_;omega
end Tr
end Go.Proofs.YtjbcbnemdhbhbaaGreatDoor
