import Derived.Test.YtjbcbnemdhbhbaaGreatDoorA5
import Derived.Test.YtjbcbnemdhbhbaaGreatDoorA1
import Derived.Lib.AppendZerosOnto
import Derived.Deep.DeepAppendWide
import Derived.Laws.CopyRow
set_option maxRecDepth 100000
set_option linter.unusedVariables false
set_option linter.unusedSimpArgs false
set_option maxHeartbeats 40000000
open ByteArray renaming empty→abY
open Exists renaming intro→acA
open Go renaming Calls→aaf,Program→afi,TypeId→abS,Value→No,World→AI,info_parts→ach,maxLen→abj,wpList→agS
open Go.Builtin renaming append_→adN,copy_→ahb
open Go.Lib renaming hid→sh
open Go.Op renaming bytesLess→acj
open Go.Result renaming andThen→afL
open Go.RowKit renaming Below→IT
open Go.RowKit.Below renaming refl→BY
open Go.Sem renaming run→aef
open Go.World renaming ownsRow_lit→aeg
open List renaming all_eq_true→aes,flatten_append→agW,getElem?_eq_getElem→aaG,getElem?_eq_some_iff→abB,length_append→AT,map_cons→acm,mem_cons→OF,mem_flatMap→abr,mem_map→abK,mem_map_of_mem→abO,pairwise_append→aed,pairwise_cons→acX,take_of_length_le→aca,take_succ_eq_append_getElem→aaU
open List.Pairwise renaming nil→aey
open Nat renaming add_zero→adh,le_refl→AS,min→aex,mul_one→aga,zero_add→abR,zero_le→abi
namespace Go.Proofs.YtjbcbnemdhbhbaaGreatDoor
open Go.Proofs.Tryz
open Go.RowKit
theorem aW.lit{w:AI}{S:Nat->Prop}{jH:Nat}{c:Ce}(h:Bk w jH 170 #[.string c.key,.string c.val,.int .i64 c.over,.int .i64 c.size,.int .i64 c.child])(hS:S jH):aW w S ⟨some ⟨jH,0,none⟩,1,1⟩ [c]:=by
 refine⟨rfl,AS _,by unfold abj;show 1<=_;omega,fun i d hd=> ?_⟩;have hi:i<1:=(abB.1 hd).1;obtain rfl:i=0:=by omega
 obtain rfl:c=d:=by simpa using hd
 refine⟨jH,0,c.eG,rfl,⟨hS,h.lt⟩,rfl,fun j u hu=> ?_,rfl⟩;have e:(0+0*5+j)=j:=by omega
 rw[e,h.cell j,<-Array.getElem?_toList];exact hu
theorem Nd.JI{leaf:Bool}{c:Ce}(h:Nd.aL leaf c=true)(hl:leaf=true):Nd.right leaf [c]=true:=by
 subst hl;simp[Nd.right,Nd.rise,h]
theorem E6(r:Rw)(c:Ce)(S:Nat->Prop)(w:AI)(h:aW w S r [c])(hr:Nd.aL true c=true):aaf prog 253 #[.bool true,.slice r.A r.n r.c] w (dH (2+Nd.size true c:Nat) w):=by
 have hrr:=Nd.JI hr rfl;have vK:=sh fun(W:AI) (hb:IT w.heap.size w W)=>yc true r [c] S W (h.below hb) (by simp) hrr;have vL:=sh fun(W:AI) (hb:IT w.heap.size w W)=>uS true r [c] S W (h.below hb) (Nd.rL hrr (by simp));obtain⟨N,hN⟩:∃N,N=Nd.sum true [c]:=⟨_,rfl⟩;have HN:=sh (show 2+Nd.size true c=N by rw[hN];simp[Nd.sum]);rw[<-hN]at vL;obtain⟨A,n,cap⟩:=r;simp only at vK vL |-;clear h hr hrr hN;go_enter func253,ntmps253
 go_wp2_with (first
  | (go_at_call 268;go_must (refine(vK.out _ (BY _ _)).mono ?_);rintro e w1 ⟨rfl,ar⟩;have dG:=sh ar;clear ar)
  | (go_at_call 254;go_must (refine(vL.out _ dG.out).mono ?_);rintro e w2 ⟨rfl,aC⟩;have gP:=sh (dG.out.trans (aC.mono dG.out.size));clear aC)
  | fail)
 go_ret
 exact fq (by rw[HN.out]) gP.out
theorem CP(c:Ce)(w:AI)(hr:Nd.aL true c=true):aaf prog 219 #[.bool true,.agg #[.string c.key,.string c.val,.int .i64 c.over,.int .i64 c.size,.int .i64 c.child]] w (dH (Nd.size true c:Nat) w):=by
 obtain⟨wl,Dj⟩:∃W,W=(w.alloc (.cells #[.string c.key,.string c.val,.int .i64 c.over,.int .i64 c.size,.int .i64 c.child] 170)).alloc (.cells #[.string c.key,.string c.val,.int .i64 c.over,.int .i64 c.size,.int .i64 c.child] 170):=⟨_,rfl⟩;have hk:Bk wl (w.heap.size+1) 170 #[.string c.key,.string c.val,.int .i64 c.over,.int .i64 c.size,.int .i64 c.child]:=by
  rw[Dj];have h:=Bk.new (w.alloc (.cells #[.string c.key,.string c.val,.int .i64 c.over,.int .i64 c.size,.int .i64 c.child] 170)) 170 #[.string c.key,.string c.val,.int .i64 c.over,.int .i64 c.size,.int .i64 c.child]
  rwa [show (w.alloc (.cells #[.string c.key,.string c.val,.int .i64 c.over,.int .i64 c.size,.int .i64 c.child] 170)).heap.size=w.heap.size+1 by simp]at h
 have HB:=sh (show IT w.heap.size w wl by rw[Dj];exact((BY _ w).alloc (AS _) _).alloc (by simp) _);have HC:=sh (E6 ⟨some ⟨w.heap.size+1,0,none⟩,1,1⟩ c (fun _=>True) wl (aW.lit hk trivial) hr);have HW:=sh Dj;obtain⟨N,hN⟩:∃N,N=Nd.size true c:=⟨_,rfl⟩;rw[<-hN]at HC |-;have hNb:N<=223:=by rw[hN];exact(Nd.size_le hr).2
 clear hk Dj hr hN;go_enter func219,ntmps219
 go_wp2_with (first
  | (go_at_call 253;rw[<-HW.out];go_must (refine HC.out.mono ?_);rintro e w1 ⟨rfl,ar⟩;have dG:=sh (HB.out.trans (ar.mono HB.out.size));clear ar)
  | fail)
 go_ret
 exact fq (by omega) dG.out
theorem wR(c:Ce)(w:AI)(hk:c.key.size<=1000):aaf prog 219 #[.bool false,.agg #[.string c.key,.string c.val,.int .i64 c.over,.int .i64 c.size,.int .i64 c.child]] w (dH (Nd.size false c:Nat) w):=by
 obtain⟨key,val,over,size,child⟩:=c;simp only at hk;obtain⟨n,hn⟩:∃n:Int,n=(Nd.size false ⟨key,val,over,size,child⟩:Nat):=⟨_,rfl⟩;rw[<-hn];have HN:=sh (show n=4+(key.size:Int)+4 by rw[hn];unfold Nd.size;simp);clear hn;go_enter func219,ntmps219
 go_wp2_with fail
 go_ret
 exact fq HN.out ((BY _ w).alloc (AS _) _)
theorem oB(leaf:Bool)(c:Ce)(w:AI)(hr:Nd.aL leaf c=true):aaf prog 219 #[.bool leaf,.agg #[.string c.key,.string c.val,.int .i64 c.over,.int .i64 c.size,.int .i64 c.child]] w (dH (Nd.size leaf c:Nat) w):=by
 cases leaf with
 | true=>exact CP c w hr
 | false=>exact wR c w (by have:=Nd.iw hr;omega)
theorem Nf(leaf:Bool)(w:AI):aaf prog 252 #[.bool leaf] w (fun e w'=>e= .returned (.int .i64 (if leaf then 1 else 2))/\w=w'):=by
 cases leaf
 all_goals
  go_enter func252,ntmps252
  go_wp2_with fail
  go_ret
  exact⟨rfl,rfl⟩
structure Pt where
 key:ByteArray
 leaf:Bool
 cells:List Ce
theorem JR(x:Pt)(r:Rw)(S:Nat->Prop)(w:AI)(h:aW w S r x.cells)(hl:x.cells.length<=10000)(hr:∀c∈x.cells,Nd.aL x.leaf c=true):
  aaf prog 222 #[.agg #[.string x.key,.bool x.leaf,.slice r.A r.n r.c]] w (gl (decide (Nd.sum x.leaf x.cells<122)) w):=by
 obtain⟨key,leaf,l⟩:=x;obtain⟨A,n,cap⟩:=r;have iT:=h;obtain⟨h1,h2,h3,-⟩:=iT;simp only at h1 h2 h3 hl hr |-;subst h1;obtain⟨q,hq⟩:∃q,q=decide (Nd.sum leaf l<122):=⟨_,rfl⟩;rw[<-hq];have HQ:=sh hq;have HL:=sh hr;have cI:cap<=9223372036854775807:=by unfold abj at h3;omega
 obtain⟨wa,TF⟩:∃W,W=w.alloc (.cells #[.string key,.bool leaf,.slice A l.length cap] 319):=⟨_,rfl⟩;have gJ:IT w.heap.size w wa:=by rw[TF];exact(BY _ w).alloc (AS _) _
 have HKA:=sh (show Bk wa w.heap.size 319 #[.string key,.bool leaf,.slice A l.length cap]by rw[TF];exact Bk.new w _ _);have HR:=sh (h.below gJ);have TV:=sh gJ;have HWA:=sh TF;have p2:wa.cell? ⟨w.heap.size,2,none⟩=some (.slice A l.length cap):=HKA.out.cell 2;have la:=HKA.out.lt;clear h h3 hq hr gJ TF;go_enter func222,ntmps222
 go_upto_region 2 with fail
 rw[<-HWA.out];go_wp2_with fail
 go_loopw [3,9] (fun u i wr=>∃(j y:Nat),i= .int .i64 j/\u= .int .i64 y/\j<=l.length/\y<=2+223*j/\Hid (y=2+((l.take j).map (Nd.size leaf)).sum)/\IT wa.heap.size wa wr) (fun _ i _=>l.length-(intOf i).toNat)
 case atStart=>exact⟨0,2,rfl,rfl,abi _,by omega,sh (by simp),BY _ _⟩
 case round=>
  obtain⟨j,y,rfl,rfl,hj,hy,HY,eE⟩:=hrel;have fW:=sh eE;by_cases aH:j<l.length
  ·have z1:decide ((j:Int)<(l.length:Int))=true:=decide_eq_true (by omega)
   obtain⟨b,o,hA,hS,q0,q1,q2,q3,q4⟩:=(HR.out.below eE).at j aH;simp only at hA;subst hA;have fV:=hS.2;have eW:=HL.out _ (List.getElem_mem aH);have cZ:=(Nd.size_le eW).2;have HC:=sh fun(W:AI)=>oB leaf l[j] W eW;have HT:=sh (show ((l.take (j+1)).map (Nd.size leaf)).sum=((l.take j).map (Nd.size leaf)).sum+Nd.size leaf l[j]by rw[aaU aH,List.map_append,List.sum_append];simp);obtain⟨z,hz⟩:∃z,z=Nd.size leaf l[j]:=⟨_,rfl⟩;rw[<-hz]at HC HT cZ;obtain⟨x,hx⟩:∃x,x=l[j]:=⟨_,rfl⟩;rw[<-hx]at HC q0 q1 q2 q3 q4;have Pm:=ae HKA.out eE;have s1:wr.cell? ⟨w.heap.size,1,none⟩=some (.bool leaf):=Pm.cell 1;have lr:=Pm.lt;clear hS eW hz hx eE Pm;go_wp2_with (first
    | (go_at_call 219;go_must (refine(HC.out _).mono ?_);rintro e w2 ⟨rfl,aC⟩;have bm:=sh (fW.out.trans ((bN aC).2.2.2.2.2.2.1.mono fW.out.size));clear aC)
    | fail)
   go_roundw
   case rel=>first|exact⟨j+1,y+z,by go_num,by go_num,by omega,by omega,sh (by rw[HT.out,HY.out];omega),bm.out⟩|((repeat apply acA);exact⟨⟨j+1,y+z,by go_num,by go_num,by omega,by omega,sh (by rw[HT.out,HY.out];omega),bm.out⟩,rfl⟩)
   case measure=>simp[intOf];omega
  ·have z1:decide ((j:Int)<(l.length:Int))=false:=decide_eq_false (by omega)
   have HV:=sh (show q=decide (y<122)by rw[HQ.out,HY.out,aca (by omega)];rfl);clear eE;by_cases hs:y<122
   ·have y1:decide ((y:Int)<122)=true:=decide_eq_true (by omega)
    have vF:=sh (show q=true by rw[HV.out];exact decide_eq_true hs);clear hs;go_wp2_with fail
    go_ret
    exact ec vF.out (TV.out.trans (fW.out.mono TV.out.size))
   ·have y1:decide ((y:Int)<122)=false:=decide_eq_false (by omega)
    have vF:=sh (show q=false by rw[HV.out];exact decide_eq_false hs);clear hs;go_wp2_with fail
    go_ret
    exact ec vF.out (TV.out.trans (fW.out.mono TV.out.size))
namespace Nd
def spot (l:List Ce) (key:ByteArray):Nat:=l.findIdx fun c=> !lt c.key key
def has (l:List Ce) (key:ByteArray):Bool:=match l[spot l key]? with|some c=>c.key.toList==key.toList|none=>false
theorem ic(l:List Ce)(key:ByteArray):spot l key<=l.length:=List.findIdx_le_length
theorem zB(l:List Ce)(key:ByteArray)(j:Nat)(hj:j<=l.length)(h1:∀i (h:i<j),lt (l[i]'(by omega)).key key=true)(h2:∀h:j<l.length,lt l[j].key key=false):spot l key=j:=by
 unfold spot;by_cases aH:j<l.length
 ·rw[List.findIdx_eq aH]
  exact⟨by rw[h2 aH];rfl,fun i hi=>by rw[h1 i hi];rfl⟩
 ·obtain rfl:j=l.length:=by omega
  rw[List.findIdx_eq_length];intro x hx;obtain⟨i,hi,rfl⟩:=List.getElem_of_mem hx;rw[h1 i hi];rfl
end Nd
theorem xZ(r:Rw)(l:List Ce)(key:ByteArray)(S:Nat->Prop)(w:AI)(h:aW w S r l)(hl:l.length<=10000):
  aaf prog 106 #[.slice r.A r.n r.c,.string key] w (fun e w'=>e= .returned (.tuple #[.int .i64 (Nd.spot l key:Nat),.bool (Nd.has l key)])/\IT w.heap.size w w'):=by
 obtain⟨A,n,cap⟩:=r;have iT:=h;obtain⟨h1,h2,h3,-⟩:=iT;simp only at h1 h2 h3 |-;subst h1;obtain⟨p,hp⟩:∃p,p=Nd.spot l key:=⟨_,rfl⟩;obtain⟨q,hq⟩:∃q,q=Nd.has l key:=⟨_,rfl⟩;have HP:=sh hp;have HQ:=sh hq;rw[<-hp,<-hq];have HR:=sh h;have cI:cap<=9223372036854775807:=by unfold abj at h3;omega
 clear h h3 hp hq;go_enter func106,ntmps106
 go_wp2_with fail
 go_loopw [6] (fun i wr=>∃(j:Nat),i= .int .i64 j/\j<=l.length/\Hid (∀i (h:i<j) (h':i<l.length),Nd.lt l[i].key key=true)/\wr=w) (fun i _=>l.length-(intOf i).toNat)
 case atStart=>exact⟨0,rfl,abi _,sh (fun i h=>by omega),by first|rfl|trivial⟩
 case round=>
  obtain⟨j,rfl,hj,HA,rfl⟩:=hrel;by_cases aH:j<l.length
  ·have z1:decide ((j:Int)<(l.length:Int))=true:=decide_eq_true (by omega)
   obtain⟨b,o,hA,hS,q0,-⟩:=HR.out.at j aH;simp only at hA;subst hA;have fV:=hS.2;obtain⟨x,hx⟩:∃x,x=l[j]:=⟨_,rfl⟩;rw[<-hx]at q0;have HX:=sh hx;clear hS hx;cases hc:Nd.lt x.key key with
   | true=>
    have y1:acj x.key.toList key.toList=true:=hc;have HN:=sh (show ∀i (h:i<j+1) (h':i<l.length),Nd.lt l[i].key key=true from fun i h h'=>by
     by_cases e:i=j
     ·subst e;rw[<-HX.out];exact hc
     ·exact HA.out i (by omega) h')
    clear hc;go_wp2_with fail
    go_roundw
    case rel=>first|exact⟨j+1,by go_num,by omega,HN,by first|rfl|trivial⟩|((repeat apply acA);exact⟨⟨j+1,by go_num,by omega,HN,by first|rfl|trivial⟩,rfl⟩)
    case measure=>simp[intOf];omega
   | false=>
    have y1:acj x.key.toList key.toList=false:=hc;have HV:=sh (show p=j from HP.out.trans (Nd.zB l key j hj (fun i h=>HA.out i h (by omega)) (fun _=>by rw[<-HX.out];exact hc)));have hq:q=(x.key.toList==key.toList):=by
     rw[HQ.out];unfold Nd.has;rw[<-HP.out,HV.out,aaG aH,<-HX.out]
    clear hc;cases hk:(x.key.toList==key.toList)with
    | true=>
     have vF:=sh (show q=true by rw[hq,hk]);clear hq;go_wp2_with fail
     go_quiet (fail)
     go_wp2_with fail
     go_ret2
     exact⟨by rw[HV.out,vF.out];rfl,below_drewN (BY _ _) _⟩
    | false=>
     have vF:=sh (show q=false by rw[hq,hk]);clear hq;go_wp2_with fail
     go_quiet (fail)
     go_wp2_with fail
     go_ret2
     exact⟨by rw[HV.out,vF.out];rfl,below_drewN (BY _ _) _⟩
  ·have z1:decide ((j:Int)<(l.length:Int))=false:=decide_eq_false (by omega)
   obtain rfl:j=l.length:=by omega
   have HV:=sh (show p=l.length from HP.out.trans (Nd.zB l key _ (AS _) (fun i h=>HA.out i h h) (fun h=>by omega)));have vF:=sh (show q=false by
    rw[HQ.out];unfold Nd.has;rw[<-HP.out,HV.out,List.getElem?_eq_none (AS _)])
   go_wp2_with fail
   go_quiet (fail)
   go_wp2_with fail
   go_ret2
   exact⟨by rw[HV.out,vF.out];rfl,below_drewN (BY _ _) _⟩
structure rW where
 kind:Nat
 body:ByteArray
abbrev ag:=Nat->Option rW
structure En where
 cell:Ce
 aa:List Nat
 val:List UInt8
structure Kd where
 key:ByteArray
 no:Nat
 P:List Nat
 L:List En
def Kd.cell (k:Kd):Ce:=⟨k.key,⟨#[]⟩,0,0,k.no⟩
def Kd.rg (k:Kd):ByteArray×List En:=(k.key,k.L)
namespace Tr
def Chain (σ :ag):Nat->List Nat->List UInt8->Prop
 | no,[],v=>no=0/\v=[]
 | no,n::ns,v=>no=n/\1<=n/\n<512/\∃(next:Nat) (piece rest:List UInt8),σ n=some ⟨3,⟨(Be.low next 4++piece).toArray⟩⟩/\next<512/\v=piece++rest/\0<piece.length/\piece.length<=484/\(next≠0->piece.length=484)/\Chain σ next ns rest
def eI (σ :ag) (e:En):Prop:=Nd.bQ e.cell=true/\((e.cell.over=0/\e.aa=[]/\e.val=e.cell.val.data.toList)\/(e.cell.over≠0/\Chain σ e.cell.over e.aa e.val/\e.val.length=e.cell.size))
def bj (L:List En):Prop:=L.Pairwise fun a b=>Nd.lt a.cell.key b.cell.key=true
def Sep (l:List (ByteArray×List En)):Prop:=l.Pairwise (fun a b=>∀e∈a.2,Nd.lt e.cell.key b.1=true)/\∀a∈l,∀e∈a.2,Nd.lt e.cell.key a.1=false
def oK (Q:List Ce->List Nat->List En->Prop) (leaf:Bool) (σ :ag) (no:Nat) (P:List Nat) (L:List En):Prop:=
 ∃(cs:List Ce) (P':List Nat),P=no::P'/\1<=no/\no<512/\ σ no=some ⟨if leaf then 1 else 2,Nd.str leaf cs⟩/\Q cs P' L/\Nd.sum leaf cs<=488/\L≠[]/\(leaf=false->2<=cs.length)
def Hp (d:Nat) (L:List En):Prop:=d=0->122<=Nd.sum true (L.map (·.cell))
def F3 (d:Nat) (k:Kd):Prop:=k.key.size<=120/\Hp d k.L
def Part (σ :ag):Nat->List Ce->List Nat->List En->Prop
 | 0,cs,P,L=>cs=L.map (·.cell)/\P=L.flatMap (·.aa)/\bj L/\∀e∈L,eI σ e
 | d+1,cs,P,L=>∃ks:List Kd,cs=ks.map Kd.cell/\P=ks.flatMap (·.P)/\L=ks.flatMap (·.L)/\(∃k t,ks=k::t/\k.key=⟨#[]⟩)/\Sep (ks.map Kd.rg)/\∀k∈ks,F3 d k/\oK (Part σ d) (d==0) σ k.no k.P k.L
def aD (σ :ag) (d:Nat):Nat->List Nat->List En->Prop:=oK (Part σ d) (d==0) σ
def dt (σ :ag) (root:Nat) (P:List Nat) (L:List En):Prop:=(root=0/\P=[]/\L=[])\/∃d,aD σ d root P L
theorem iI{a b c:ByteArray}(h1:Nd.lt a b=true)(h2:Nd.lt c b=false):Nd.lt a c=true:=by
 rcases Nd.iJ b c with h|h|h
 ·exact Nd.lt_trans h1 h
 ·subst h;exact h1
 ·rw[h2]at h;cases h
theorem B3{a b c:ByteArray}(h1:Nd.lt b a=false)(h2:Nd.lt b c=true):Nd.lt a c=true:=by
 rcases Nd.iJ a b with h|h|h
 ·exact Nd.lt_trans h h2
 ·subst h;exact h2
 ·rw[h1]at h;cases h
theorem le_of_lt{a b:ByteArray}(h:Nd.lt a b=true):Nd.lt b a=false:=Nd.lt_asymm h
theorem le_nil(a:ByteArray):Nd.lt a ⟨#[]⟩=false:=by
 unfold Nd.lt;have e:(⟨#[]⟩:ByteArray).toList=[]:=by rw[ByteArray.toList_eq]
 rw[e];cases a.toList<;>rfl
theorem jD:∀(l:List Ce),l.Pairwise (fun a b=>Nd.lt a.key b.key=true)->Nd.rise l=true
 | [],_=>rfl
 | [_],_=>rfl
 | a::b::l,h=>by
  rw[acX]at h;simp only[Nd.rise,Bool.and_eq_true];exact⟨h.1 b (by simp),jD (b::l) h.2⟩
theorem Chain.congr{σ σ':ag}:∀ {ns:List Nat} {no:Nat} {v:List UInt8},Chain σ no ns v->(∀n∈ns,σ' n= σ n)->Chain σ' no ns v
 | [],_,_,h,_=>h
 | n::ns,_,_,⟨h1,h2,h3,next,piece,rest,h4,h5,h6,h7,h8,h9,fu⟩,hk=>
  ⟨h1,h2,h3,next,piece,rest,(hk n (by simp)).trans h4,h5,h6,h7,h8,h9,fu.congr fun m hm=>hk m (by simp[hm])⟩
theorem Chain.mem{σ :ag}:∀ {ns:List Nat} {no:Nat} {v:List UInt8},Chain σ no ns v->∀n∈ns,1<=n/\n<512/\ σ n≠none
 | n::ns,_,_,⟨h1,h2,h3,next,piece,rest,h4,h5,h6,h7,h8,h9,fu⟩,m,hm=>by
  rcases OF.1 hm with rfl|hm
  ·exact⟨h2,h3,by rw[h4];simp⟩
  ·exact fu.mem m hm
theorem eI.congr{σ σ':ag}{e:En}(h:eI σ e)(hk:∀n∈e.aa,σ' n= σ n):eI σ' e:=
 ⟨h.1,h.2.imp id fun⟨a,b,c⟩=>⟨a,b.congr hk,c⟩⟩
theorem eI.mem{σ :ag}{e:En}(h:eI σ e):∀n∈e.aa,1<=n/\n<512/\ σ n≠none:=by
 rcases h.2 with⟨-,h2,-⟩|⟨-,h2,-⟩
 ·rw[h2];simp
 ·exact h2.mem
theorem mj{Q Q':List Ce->List Nat->List En->Prop}{leaf:Bool}{σ σ':ag}{no:Nat}{P:List Nat}{L:List En}(h:oK Q leaf σ no P L)(hk:∀n∈P,σ' n= σ n)(hQ:∀cs P',(∀n∈P',n∈P)->Q cs P' L->Q' cs P' L):oK Q' leaf σ' no P L:=by
 obtain⟨cs,P',rfl,h1,h2,h3,h4,h5⟩:=h;exact⟨cs,P',rfl,h1,h2,(hk no (by simp)).trans h3,hQ cs P' (fun n hn=>by simp[hn]) h4,h5⟩
theorem Part.congr{σ σ':ag}:∀ {d:Nat} {cs:List Ce} {P:List Nat} {L:List En},Part σ d cs P L->(∀n∈P,σ' n= σ n)->Part σ' d cs P L
 | 0,cs,P,L,⟨h1,h2,h3,h4⟩,hk=>⟨h1,h2,h3,fun e he=>(h4 e he).congr fun n hn=>hk n (by rw[h2];exact abr.2 ⟨e,he,hn⟩)⟩
 | d+1,cs,P,L,⟨ks,h1,h2,h3,h4,h5,h6⟩,hk=>⟨ks,h1,h2,h3,h4,h5,fun k jI=>⟨(h6 k jI).1,mj (h6 k jI).2 (fun n hn=>hk n (by rw[h2];exact abr.2 ⟨k,jI,hn⟩)) (fun cs P' hP hq=>Part.congr hq fun n hn=>hk n (by rw[h2];exact abr.2 ⟨k,jI,hP n hn⟩))⟩⟩
theorem aD.congr{σ σ':ag}{d no:Nat}{P:List Nat}{L:List En}(h:aD σ d no P L)(hk:∀n∈P,σ' n= σ n):aD σ' d no P L:=
 mj h hk fun cs P' hP hq=>hq.congr fun n hn=>hk n (hP n hn)
theorem Part.mem{σ :ag}:∀ {d:Nat} {cs:List Ce} {P:List Nat} {L:List En},Part σ d cs P L->∀n∈P,1<=n/\n<512/\ σ n≠none
 | 0,cs,P,L,⟨h1,h2,h3,h4⟩,n,hn=>by
  rw[h2]at hn;obtain⟨e,he,hn⟩:=abr.1 hn;exact(h4 e he).mem n hn
 | d+1,cs,P,L,⟨ks,h1,h2,h3,h4,h5,h6⟩,n,hn=>by
  rw[h2]at hn;obtain⟨k,hk,hn⟩:=abr.1 hn;obtain⟨cs,P',hP,g1,g2,g3,g4,g5⟩:=(h6 k hk).2;rw[hP]at hn;rcases OF.1 hn with rfl|hn
  ·exact⟨g1,g2,by rw[g3];simp⟩
  ·exact g4.mem n hn
theorem aD.mem{σ :ag}{d no:Nat}{P:List Nat}{L:List En}(h:aD σ d no P L):∀n∈P,1<=n/\n<512/\ σ n≠none:=by
 obtain⟨cs,P',rfl,g1,g2,g3,g4,g5⟩:=h;intro n hn;rcases OF.1 hn with rfl|hn
 ·exact⟨g1,g2,by rw[g3];simp⟩
 ·exact g4.mem n hn
theorem fN{a:ByteArray×List En}{l:List (ByteArray×List En)}:Sep (a::l)↔((∀b∈l,∀e∈a.2,Nd.lt e.cell.key b.1=true)/\∀e∈a.2,Nd.lt e.cell.key a.1=false)/\Sep l:=by
 unfold Sep;rw[acX];constructor
 ·rintro⟨⟨h1,h2⟩,h3⟩
  exact⟨⟨h1,h3 a (by simp)⟩,h2,fun x hx=>h3 x (by simp[hx])⟩
 ·rintro⟨⟨h1,h2⟩,h3,h4⟩
  exact⟨⟨h1,h3⟩,fun x hx=>by rcases OF.1 hx with rfl|hx;exact h2;exact h4 x hx⟩
theorem eT{a b:List (ByteArray×List En)}:Sep (a++b)↔Sep a/\Sep b/\∀x∈a,∀y∈b,∀e∈x.2,Nd.lt e.cell.key y.1=true:=by
 unfold Sep;rw[aed];constructor
 ·rintro⟨⟨h1,h2,h3⟩,h4⟩
  exact⟨⟨h1,fun x hx=>h4 x (by simp[hx])⟩,⟨h2,fun x hx=>h4 x (by simp[hx])⟩,h3⟩
 ·rintro⟨⟨h1,h2⟩,⟨h3,h4⟩,h5⟩
  exact⟨⟨h1,h3,h5⟩,fun x hx=>by rcases List.mem_append.1 hx with hx|hx;exact h2 x hx;exact h4 x hx⟩
theorem rM:∀(ks:List Kd),Sep (ks.map Kd.rg)->(∀k∈ks,bj k.L)->bj (ks.flatMap (·.L))
 | [],_,_=>aey
 | k::ks,h,hr=>by
  rw[acm,fN]at h;rw[List.flatMap_cons];refine aed.2 ⟨hr k (by simp),rM ks h.2 fun x hx=>hr x (by simp[hx]),?_⟩;intro a ha b hb;obtain⟨x,hx,hb⟩:=abr.1 hb;have h1:=h.1.1 x.rg (abO hx) a ha;have h2:=h.2.2 x.rg (abO hx) b hb;exact iI h1 h2
theorem Part.rising{σ :ag}:∀ {d:Nat} {cs:List Ce} {P:List Nat} {L:List En},Part σ d cs P L->bj L
 | 0,cs,P,L,⟨h1,h2,h3,h4⟩=>h3
 | d+1,cs,P,L,⟨ks,h1,h2,h3,h4,h5,h6⟩=>by
  rw[h3];refine rM ks h5 fun k hk=> ?_;obtain⟨cs,P',hP,g1,g2,g3,g4,g5⟩:=(h6 k hk).2;exact g4.rising
theorem xS:∀(ks:List Kd),Sep (ks.map Kd.rg)->(∀k∈ks,k.L≠[])->(ks.map Kd.cell).Pairwise (fun a b=>Nd.lt a.key b.key=true)
 | [],_,_=>aey
 | k::ks,h,hn=>by
  rw[acm,fN]at h;rw[acm,acX];refine⟨fun c hc=> ?_,xS ks h.2 fun x hx=>hn x (by simp[hx])⟩;obtain⟨x,hx,rfl⟩:=abK.1 hc;obtain⟨e,t,he⟩:=List.exists_cons_of_ne_nil (hn k (by simp));have he:e∈k.L:=by rw[he];simp
  exact B3 (h.1.2 e he) (h.1.1 x.rg (abO hx) e he)
theorem Part.right{σ :ag}{d:Nat}{cs:List Ce}{P:List Nat}{L:List En}(h:Part σ d cs P L):Nd.right (d==0) cs=true/\∀c∈cs,Nd.aL (d==0) c=true:=by
 cases d with
 | zero=>
  obtain⟨h1,h2,h3,h4⟩:=h;have h5:∀c∈cs,Nd.aL true c=true:=fun c hc=>by
   rw[h1]at hc;obtain⟨e,he,rfl⟩:=abK.1 hc;exact(h4 e he).1
  refine⟨?_,h5⟩;unfold Nd.right;have h6:Nd.rise cs=true:=jD _ (by rw[h1];exact List.pairwise_map.2 h3);simp only[beq_self_eq_true,Bool.true_or,Bool.true_and,h6,Bool.and_true];exact aes.2 h5
 | succ d=>
  obtain⟨ks,h1,h2,h3,⟨k,t,h4,h4'⟩,h5,h6⟩:=h;have h7:∀c∈cs,Nd.aL false c=true:=fun c hc=>by
   rw[h1]at hc;obtain⟨x,hx,rfl⟩:=abK.1 hc;obtain⟨⟨g0,-⟩,_,_,_,g1,g2,-⟩:=h6 x hx;simp[Nd.aL,Nd.cn,Kd.cell,g0,g1,g2];rfl
  refine⟨?_,h7⟩;have h8:Nd.rise cs=true:=jD _ (by
   rw[h1];refine xS ks h5 fun x hx=> ?_;obtain⟨-,_,_,_,_,_,_,_,_,g,-⟩:=h6 x hx;exact g)
  have h9:(d+1==0)=false:=rfl;have fu:cs.all (Nd.aL false)=true:=aes.2 h7;unfold Nd.right;rw[h9,h8,fu,h1,h4];simp[Kd.cell,h4'];rfl
end Tr
theorem aV{w:AI}{B:Nat}{e:abS}{s n:Nat}{v:No}{xs:List No}(h:w.ownsRow B e s v n xs):∃A c,v= .slice A n c/\(n≠0->∃g,A=some ⟨g,0,none⟩)/\c<=abj:=by
 rcases h.2 with⟨rfl,rfl⟩|⟨g,cap,_,rfl,_,_,_,hc,_⟩
 ·exact⟨none,0,rfl,fun h=>absurd rfl h,abi _⟩
 ·exact⟨_,cap,rfl,fun _=>⟨g,rfl⟩,hc⟩
section
variable {P:afi} (w:AI)
theorem zA(base:Nat)(t ty e:abS)(i:TypeInfo)(z:No)(size bytes:Nat)(ht:P.underlying t=some (.slice e))(hi:P.info? e=some i)(hz:i.zero=some z)
  (uD:i.size=size) (Va:i.bytes=bytes) (Wn:z.cells.size=size) (h0:0<size)
  (v:No) (n:Nat) (xs:List No) (aq:w.ownsRow base e size v n xs)
  (A:Option Addr) (m c:Nat) (news:List No) (hm:news.length=m*size) (hA:A=none->m=0) (hr:∀ad,A=some ad->∀j u,news[j]? =some u->w.cell? (ad.add j)=some u) (h1:∀u∈news,u.oneCell'=true)
  (UP:n+m<=abj) (og:(n+m)*bytes<=140737488355328) (ui:base<=w.heap.size):
  ∃v' w',(adN #[t,t] ty #[v,.slice A m c]).run P w= .ok v' w'/\w'.ownsRow base e size v' (n+m) (xs++news)/\w.grownBy w' v.ownBlock/\
   (v'.ownBlock=v.ownBlock\/v'.ownBlock=some w.heap.size):=by
 rcases A with _|ad
 ·have ze:=hA rfl
  subst ze;have hn:news=[]:=List.eq_nil_of_length_eq_zero (by omega);subst hn;exact⟨v,w,run_append_nil w base t ty e i size ht hi v n xs aq c,by simpa using aq,World.grownBy.refl w _,.inl rfl⟩
 ·obtain⟨v',w',bZ,h2,h3,_,h5⟩:=run_append_own_at (P:=P) w base t ty e i z size bytes ht hi hz uD Va Wn h0 v n xs aq ad m c news hm (hr ad rfl) h1 UP og ui
  exact⟨v',w',bZ,h2,h3,h5⟩
theorem bq{ops:Array Oper}{rest:List Oper}{o:Oper}{a:Act}{Q:Exit->Act->AI->Prop}(Kz:o.guard=none)(s x:Operand)(t:abS)
  (ho:o.op= .call { callee:= .builtin .append,args:= #[s,x],argTypes:= #[t,t] })
  (base:Nat) (e:abS) (i:TypeInfo) (z:No) (size bytes:Nat) (ht:P.underlying t=some (.slice e)) (hi:P.info? e=some i) (hz:i.zero=some z)
  (uD:i.size=size) (Va:i.bytes=bytes) (Wn:z.cells.size=size) (h0:0<size)
  (v:No) (n:Nat) (xs:List No) (hs:a.eval s=v) (aq:w.ownsRow base e size v n xs)
  (A:Option Addr) (m c:Nat) (news:List No) (hx:a.eval x= .slice A m c) (hm:news.length=m*size) (hA:A=none->m=0) (hr:∀ad,A=some ad->∀j u,news[j]? =some u->w.cell? (ad.add j)=some u) (h1:∀u∈news,u.oneCell'=true)
  (UP:n+m<=abj) (og:(n+m)*bytes<=140737488355328) (ui:base<=w.heap.size)
  (h:∀A' c' w',w'.ownsRow base e size (.slice A' (n+m) c') (n+m) (xs++news)->w.grownBy w' v.ownBlock->agS P ops Q rest (a.put o.dst (.slice A' (n+m) c')) w'):agS P ops Q (o::rest) a w:=by
 refine wpList_plain Kz fun K hK=> ?_;obtain⟨v',w',bZ,h2,h3,h4⟩:=zA (P:=P) w base t o.type e i z size bytes ht hi hz uD Va Wn h0 v n xs aq A m c news hm hA hr h1 UP og ui;obtain⟨A',c',rfl,-,-⟩:=aV h2;unfold Oper.wp execOp;simp only[ho,resolve,invoke,builtin,Sem.run_bind,Sem.run_pure,Result.andThen_ok,List.map_toArray,acm,List.map_nil,hs,hx,bZ];exact hK _ _ (h A' c' w' h2 h3)
end
theorem aW.flat{w:AI}{S:Nat->Prop}{r:Rw}{l:List Ce}(h:aW w S r l){b o:Nat}(hA:r.A=some ⟨b,o,none⟩):∀(j:Nat) (u:No),(aA l)[j]? =some u->w.cell? ⟨b,o+j,none⟩=some u:=by
 intro j u hu;have hj:j<(aA l).length:=(abB.1 hu).1;rw[bC]at hj;have hi:j/5<l.length:=by omega
 have he:j/5*5+j%5=j:=by omega
 obtain⟨h1,h2,h3,h4⟩:=h;obtain⟨b',o',c,q1,q2,q3,q4,q5⟩:=h4 (j/5) l[j/5] (aaG hi);unfold Ho at q5;subst q5;rw[hA]at q1;injection q1 with q1;injection q1 with e1 e2;subst e1 e2;have hg:=IA l (j/5) hi (j%5) (by omega);rw[he]at hg;rw[hg]at hu;have:=q4 (j%5) u hu
 rwa [show o+j/5*5+j%5=o+j by omega]at this
def iB (l:List Ce) (w:AI) (e:Ending) (w':AI):Prop:=IT w.heap.size w w'/\∃(A:Option Addr) (c:Nat),e= .returned (.slice A l.length c)/\ba w' w.heap.size (.slice A l.length c) l
theorem bJ(b o j:Nat):(⟨b,o,none⟩:Addr).add j=⟨b,o+j,none⟩:=by unfold Addr.add;split<;>simp_all
theorem mE(r:Rw)(l:List Ce)(S:Nat->Prop)(w:AI)(h:aW w S r l)(h0:0<l.length)(hl:l.length<=10000):aaf prog 221 #[.slice r.A r.n r.c] w (iB l w):=by
 obtain⟨i0,hi,ez,dP,eh⟩:=ach dZ;obtain⟨A,n,cap⟩:=r;have iT:=h;obtain⟨h1,h2,h3,-⟩:=iT;simp only at h1 h2 h3 |-;subst h1;obtain⟨b,o,hA,hS,-⟩:=h.at 0 h0;simp only at hA;subst hA;have HF:=sh (h.flat (b:=b) (o:=o) rfl);have fV:=hS.2;have cI:cap<=9223372036854775807:=by unfold abj at h3;omega
 have Ev:∀W,aef prog (binOp BinOp.eql 174 (.slice (some ⟨b,o,none⟩) l.length cap) (.slice none 0 0)) W= .ok (.bool false) W:=fun W=>by kernel_rfl
 have tA:=sh (show (w.alloc (.cells #[] 170)).ownsRow w.heap.size 170 5 (.slice (some ⟨w.heap.size,0,none⟩) 0 0) 0 [] from aeg w #[] 0 (AS _) (abi _) rfl);have KQ:=sh (show ∀(j:Nat) (u:No),(aA l)[j]? =some u->(w.alloc (.cells #[] 170)).cell? ((⟨b,o,none⟩:Addr).add j)=some u from fun j u hu=>by
  rw[bJ];exact(((BY w.heap.size w).alloc (AS _) _).cell (p:=⟨b,o+j,none⟩) fV).trans (HF.out j u hu))
 clear h h3 hS;go_enter func221,ntmps221
 go_wp2_with (at_builtin;refine wpList_append_lies _ rfl (.tmp 5) (.tmp 6) 174 rfl w.heap.size 170 i0 _ 5 56 underlying174 hi ez dP eh rfl (by omega) (.slice (some ⟨w.heap.size,0,none⟩) 0 0) 0 [] rfl tA.out ⟨b,o,none⟩ l.length cap (aA l) rfl (bC l) KQ.out (dX l) h0 (by unfold abj;omega) (by omega) (by simp) (w.heap.size+1) (by simp) ?_;intro gg gH w3 ax aQ df uo)
 have im:=sh (show ba w3 w.heap.size (.slice (some ⟨gg,0,none⟩) l.length gH) l by
  unfold ba;rw[abR,List.nil_append]at ax;exact ax)
 have iR:=sh (((ah.af ((BY _ w).alloc (AS _) (.cells #[] 170)) []).grown aQ (fun g hg=> .inr (tA.out.lt g hg).1)).below (AS _) (by simp));clear ax aQ df;go_wp2_with fail
 go_ret
 exact⟨iR.out,_,_,rfl,im.out⟩
theorem DQ(r:Rw)(S:Nat->Prop)(w:AI)(h:aW w S r []):aaf prog 221 #[.slice r.A r.n r.c] w (iB [] w):=by
 obtain⟨i0,hi,ez,dP,eh⟩:=ach dZ;obtain⟨A,n,cap⟩:=r;have iT:=h;obtain⟨h1,h2,h3,-⟩:=iT;simp only[List.length_nil]at h1 h2 h3 |-;subst h1;clear h;cases A with
 | none=>
  have Ev:∀W,aef prog (binOp BinOp.eql 174 (.slice none 0 cap) (.slice none 0 0)) W= .ok (.bool true) W:=fun W=>by kernel_rfl
  go_enter func221,ntmps221
  go_wp2_with fail
  go_ret
  exact⟨BY _ _,none,0,rfl,World.ownsRow_nil _ _ _ _⟩
 | some ad=>
  have Ev:∀W,aef prog (binOp BinOp.eql 174 (.slice (some ad) 0 cap) (.slice none 0 0)) W= .ok (.bool false) W:=fun W=>by kernel_rfl
  have tA:=sh (show (w.alloc (.cells #[] 170)).ownsRow w.heap.size 170 5 (.slice (some ⟨w.heap.size,0,none⟩) 0 0) 0 [] from aeg w #[] 0 (AS _) (abi _) rfl);have cI:cap<=9223372036854775807:=by unfold abj at h3;omega
  go_enter func221,ntmps221
  go_wp2_with (at_builtin;refine bq _ rfl (.tmp 5) (.tmp 6) 174 rfl w.heap.size 170 i0 _ 5 56 underlying174 hi ez dP eh rfl (by omega) (.slice (some ⟨w.heap.size,0,none⟩) 0 0) 0 [] rfl tA.out (some ad) 0 cap [] rfl rfl (fun h=>by cases h) (fun _ _ _ _ h=>by simp at h) (by simp) (by unfold abj;omega) (by omega) (by simp) ?_;intro gg gH w3 ax aQ)
  have im:=sh (show ba w3 w.heap.size (.slice gg 0 gH) []by
   unfold ba;exact ax)
  have iR:=sh (((ah.af ((BY _ w).alloc (AS _) (.cells #[] 170)) []).grown aQ (fun g hg=> .inr (tA.out.lt g hg).1)).below (AS _) (by simp));clear ax aQ;go_wp2_with fail
  go_ret
  exact⟨iR.out,_,_,rfl,im.out⟩
theorem wpList_append_run{P:afi}{w:AI}{ops:Array Oper}{rest:List Oper}{o:Oper}{a:Act}{Q:Exit->Act->AI->Prop}(Kz:o.guard=none)(s x:Operand)(t tn:abS)
  (ho:o.op= .call { callee:= .builtin .append,args:= #[s,x],argTypes:= #[t,tn] }) (sv xv v:No) (W':AI) (hs:a.eval s=sv) (hx:a.eval x=xv)
  (bZ:(adN #[t,tn] o.type #[sv,xv]).run P w= .ok v W') (h:agS P ops Q rest (a.put o.dst v) W'):agS P ops Q (o::rest) a w:=by
 refine wpList_plain Kz fun K hK=> ?_;unfold Oper.wp;simp[execOp,ho,resolve,invoke,builtin,hs,hx,bZ,afL];exact hK _ _ h
def Uz (n:Nat) (w:AI) (e:Ending) (w':AI):Prop:=IT w.heap.size w w'/\∃(g c:Nat),e= .returned (.slice (some ⟨g,0,none⟩) 0 c)/\n<=c/\w'.ownsRow w.heap.size 170 5 (.slice (some ⟨g,0,none⟩) 0 c) 0 []
theorem L5(n:Nat)(w:AI)(h0:0<n)(hn:n<=10000):aaf prog 256 #[.slice none 0 0,.int .i64 n] w (Uz n w):=by
 obtain⟨i0,hi,ez,dP,eh⟩:=ach dZ;have z1:decide ((n:Int)<0)=false:=decide_eq_false (by omega);have z2:decide ((0:Int)<(n:Int))=true:=decide_eq_true (by omega);have IP:=nextslicecap_le_wide (need:=0+n) (old:=0) (by omega);have yx:=sh fun(W:AI)=>Lib.run_append_grow_zeros (P:=prog) W 174 3 174 170 i0 _ .i64 .i64 underlying174 underlying3 hi ez none 0 0 [] (by simp[Builtin.firstCells]) n h0 (by rw[dP];omega) (by omega) (by omega) (by rw[eh];omega) (by rw[eh];have:=Nat.mul_le_mul_right 56 IP;omega);have jU:∀W:AI,∃c,n<=c/\∃cur:Array No,cur.size=c*5/\c<=abj/\(adN #[174,3] 174 #[.slice none 0 0,.int .i64 n]).run prog W= .ok (.slice (some ⟨W.heap.size,0,none⟩) n c) (W.drew.alloc (.cells cur 170)):=fun W=>by
  have h:=yx.out W;rw[abR]at h;have Eo:=grownCap_ge W n 0 170;refine⟨_,Eo,_,?_,grownCap_le_maxLen W n 0 _ (by unfold abj;omega),h⟩;have e5:(Value.agg #[.string abY,.string abY,.int .i64 0,.int .i64 0,.int .i64 0]).cells.size=5:=rfl;simp only[Array.size_append,size_zeroCells,e5];simp;omega
 obtain⟨c,hc,cur,fy,cI,HW⟩:=jU w;have HC:=sh fy;have zO:c<=9223372036854775807:=by unfold abj at cI;omega
 have HM:=sh cI;have DA:=sh HW;clear IP jU fy cI yx HW;go_enter func256,ntmps256
 go_wp2_with (at_builtin;refine wpList_append_run rfl (.tmp 20) (.tmp 21) 174 3 rfl _ _ _ _ rfl rfl DA.out ?_)
 go_ret
 refine⟨(BY _ w).drew.alloc (AS _) _,_,c,rfl,hc,?_⟩;refine⟨rfl,.inr ⟨w.heap.size,c,cur,rfl,AS _,?_,abi _,HM.out,HC.out,rfl⟩⟩;exact heap_alloc_new w.drew _
def P9 (w:AI) (S:Nat->Prop) (l:List Ce) (c:List No):Prop:=∃(A:Option Addr) (n cap:Nat),c=[.slice A n cap]/\aW w S ⟨A,n,cap⟩ l
theorem CD:km P9:=fun hs hk hT d c h=>by
 obtain⟨A,n,cap,h1,h2⟩:=h;exact⟨A,n,cap,h1,h2.keep hs hk hT⟩
theorem ko(r:Rw)(ls:List (List Ce))(S:Nat->Prop)(w:AI)(h:fZ 1 P9 w S r ls)(h0:0<ls.flatten.length)(hl:ls.flatten.length<=10000)(Tb:ls.length<=10):
  aaf prog 224 #[.slice r.A r.n r.c] w (iB ls.flatten w):=by
 obtain⟨i0,hi,ez,dP,eh⟩:=ach dZ;obtain⟨A,n,cap⟩:=r;have iT:=h;obtain⟨h1,h2,h3,-⟩:=iT;simp only at h1 h2 h3 |-;subst h1;have HR:=sh h;have cI:cap<=9223372036854775807:=by unfold abj at h3;omega
 obtain⟨T,hT⟩:∃T,T=ls.flatten.length:=⟨_,rfl⟩;have HT:=sh hT;rw[<-hT]at h0 hl;have HTJ:=sh (show ∀j,(ls.take j).flatten.length<=T from fun j=>by
  have e:ls.flatten=(ls.take j).flatten++(ls.drop j).flatten:=by rw[<-agW,List.take_append_drop]
  rw[hT,e,AT];omega)
 have HG:=sh fun(W:AI)=>L5 T W h0 hl;clear h h3 hT;go_enter func224,ntmps224
 go_wp2_with fail
 go_loopw [3,11] (fun u i wr=>∃(j y:Nat),i= .int .i64 j/\u= .int .i64 y/\j<=ls.length/\y<=10000/\Hid (y=(ls.take j).flatten.length)/\wr=w) (fun _ i _=>ls.length-(intOf i).toNat)
 case atStart=>exact⟨0,0,rfl,rfl,abi _,by omega,sh (by simp),by first|rfl|trivial⟩
 case round=>
  obtain⟨j,y,rfl,rfl,hj,hy,HY,hwr⟩:=hrel;obtain rfl:w=wr:=hwr.symm;by_cases aH:j<ls.length
  ·have z1:decide ((j:Int)<(ls.length:Int))=true:=decide_eq_true (by omega)
   obtain⟨b,o,c,hA,hS,ni,Bj,cG⟩:=HR.out.2.2.2 j ls[j] (aaG aH);simp only at hA;subst hA;have fV:=hS.2;obtain⟨A2,n2,c2,rfl,bd⟩:=cG;have q0:w.cell? ⟨b,o+j,none⟩=some (.slice A2 n2 c2):=by have:=Bj 0 _ rfl;rw[aga,adh]at this;exact this
   have jY:n2=ls[j].length:=bd.1;have hts:(ls.take (j+1)).flatten.length=(ls.take j).flatten.length+n2:=by
    rw[jY,aaU aH,agW,AT];simp
   have hT1:=HTJ.out (j+1);have hyz:y+n2<=10000:=by have:=HY.out;omega
   have HY2:=sh (show y+n2=(ls.take (j+1)).flatten.length by rw[hts,<-HY.out]);have z3:decide (((y:Int)+(n2:Int))<0)=false:=decide_eq_false (by omega);clear hS ni Bj bd jY hts hT1;go_wp2_with fail
   go_roundw
   case rel=>first|exact⟨j+1,y+n2,by go_num,by go_num,by omega,hyz,HY2,by first|rfl|trivial⟩|((repeat apply acA);exact⟨⟨j+1,y+n2,by go_num,by go_num,by omega,hyz,HY2,by first|rfl|trivial⟩,rfl⟩)
   case measure=>simp[intOf];omega
  ·have z1:decide ((j:Int)<(ls.length:Int))=false:=decide_eq_false (by omega)
   have hyT:y=T:=by rw[HY.out,aca (by omega),HT.out]
   subst hyT;clear HY hy;go_wp2_with (first
    | (go_at_call 256;go_must (refine(HG.out _).mono ?_);rintro e w1 ⟨ar,g,c,rfl,Vq,aq⟩;have bh:=sh ar;have hJ:=sh aq;clear ar aq)
    | fail)
   go_loopw [6,27] (fun u i w2=>∃(k:Nat),i= .int .i64 k/\k<=ls.length/\ba w2 w.heap.size u (ls.take k).flatten/\IT w.heap.size w w2) (fun _ i _=>ls.length-(intOf i).toNat)
   case atStart=>exact⟨0,rfl,abi _,hJ.out,bh.out⟩
   case round=>
    obtain⟨k,rfl,hk,how,eE⟩:=hrel;have fW:=sh eE;have pW:=sh how;by_cases S8:k<ls.length
    ·have z2:decide ((k:Int)<(ls.length:Int))=true:=decide_eq_true (by omega)
     obtain⟨b,o,c9,hA,hS,ni,Bj,cG⟩:=(fZ.keep CD HR.out eE.size (T:=S) (fun x _ hx=>eE.block x hx) (fun _ h _=>h)).2.2.2 k ls[k] (aaG S8);simp only at hA;subst hA;have fV:=hS.2;obtain⟨A2,n2,c2,rfl,bd⟩:=cG;have q0:wr.cell? ⟨b,o+k,none⟩=some (.slice A2 n2 c2):=by have:=Bj 0 _ rfl;rw[aga,adh]at this;exact this
     have jY:n2=ls[k].length:=bd.1;have HNO:=sh (show A2=none->n2=0 from fun hA=>by
      by_cases h9:0<ls[k].length
      ·obtain⟨b,o,na,-⟩:=bd.at 0 h9
       simp only at na;rw[hA]at na;cases na
      ·omega)
     have HF:=sh (show ∀ad,A2=some ad->∀(j:Nat) (u:No),(aA ls[k])[j]? =some u->wr.cell? (ad.add j)=some u from fun ad od j u hu=>by
      have h9:0<ls[k].length:=by
       have h8:=(abB.1 hu).1;rw[bC]at h8;omega
      obtain⟨b,o,na,-⟩:=bd.at 0 h9;simp only at na;rw[na]at od;injection od with od;subst od;rw[bJ];exact bd.flat na j u hu)
     have YN:=sh (show (ls.take (k+1)).flatten=(ls.take k).flatten++ls[k]by
      rw[aaU S8,agW];simp)
     have hT1:=HTJ.out (k+1);have hlen:(ls.take k).flatten.length+n2<=10000:=by rw[YN.out,AT]at hT1;omega
     have U9:=fW.out.size;obtain⟨x,hx⟩:∃x,x=ls[k]:=⟨_,rfl⟩;rw[<-hx]at HF YN jY;obtain⟨m,hm⟩:∃m,m=(ls.take k).flatten.length:=⟨_,rfl⟩;have HOM:=sh (show wr.ownsRow w.heap.size 170 5 u6 m (aA (ls.take k).flatten)by rw[hm];exact how);have Kk:=sh (show (aA x).length=n2*5 by rw[bC,jY]);have Hs:=sh hm;have QU:m+n2<=10000:=by omega
     have gP:=sh jY;clear how eE hS ni Bj bd hT1 hx hm jY hlen;go_wp2_with (at_builtin;refine bq _ rfl (.tmp 31) (.tmp 32) 174 rfl w.heap.size 170 i0 _ 5 56 underlying174 hi ez dP eh rfl (by omega) u6 m (aA (ls.take k).flatten) rfl HOM.out A2 n2 c2 (aA x) rfl Kk.out HNO.out HF.out (dX x) (by unfold abj;omega) (by omega) U9 ?_;intro A' c' w3 ax aQ)
     have im:=sh (show ba w3 w.heap.size (.slice A' (m+n2) c') (ls.take (k+1)).flatten by
      unfold ba;rw[YN.out,bP,AT,<-Hs.out,<-gP.out];exact ax)
     have iR:=sh (((ah.af fW.out []).grown aQ (fun g hg=> .inr (HOM.out.lt g hg).1)).below (AS _) (by simp));clear ax aQ;go_wp2_with fail
     go_roundw
     case rel=>first|exact⟨k+1,by go_num,by omega,im.out,iR.out⟩|((repeat apply acA);exact⟨⟨k+1,by go_num,by omega,im.out,iR.out⟩,rfl⟩)
     case measure=>simp[intOf];omega
    ·have z2:decide ((k:Int)<(ls.length:Int))=false:=decide_eq_false (by omega)
     obtain rfl:k=ls.length:=by omega
     rw[List.take_length]at pW;obtain⟨r,GM,qY⟩:=pW.out.row;obtain⟨rA,rn,rc⟩:=r;simp only at GM;have Tu:rn=ls.flatten.length:=qY.1;subst GM;subst Tu;clear how eE qY;go_wp2_with fail
     go_ret
     exact⟨fW.out,rA,rc,rfl,pW.out⟩
theorem nJ{P:afi}(w:AI)(dT sT ty elem:abS)(k g o rZ DU:Nat)(a:Addr)(qG CG:Nat)(cur:Array No)(t:abS)(cs:List No)
  (hu:P.underlying dT=some (.slice elem)) (hs:(P.info? elem).map (·.size)=some k)
  (hg:w.heap[g]? =some (.cells cur t (0,0))) (hn:cs.length=aex qG rZ*k)
  (BJ:∀j v,cs[j]? =some v->w.cell? (a.add j)=some v) (gn:o+cs.length<=cur.size) (h1:∀v∈cs,v.oneCell'=true):
  (ahb #[dT,sT] ty #[.slice (some ⟨g,o,none⟩) rZ DU,.slice (some a) qG CG]).run P w=
   .ok (goInt (aex qG rZ)) (w.setRow g (cur.toList.take o++cs++cur.toList.drop (o+cs.length)).toArray):=by
 have aX:=run_storeCells_at P g o t cs 0 cur w hg (by simpa using gn) h1;cases hq:P.info? elem with
 | none=>simp[hq]at hs
 | some i=>
  have hi:i.size=k:=by simpa[hq]using hs
  have hf:=run_firstCells_some (P:=P) w k (aex qG rZ) a qG CG cs hn BJ;simp[ahb,run_underlying hu,Builtin.lenOf,sizeOf,typeInfo,hq,hi,hf,aX]
theorem bS{P:afi}{w:AI}{ops:Array Oper}{rest:List Oper}{o:Oper}{a:Act}{Q:Exit->Act->AI->Prop}(Kz:o.guard=none)(s x:Operand)(t tn:abS)
  (ho:o.op= .call { callee:= .builtin .copy,args:= #[s,x],argTypes:= #[t,tn] }) (sv xv v:No) (W':AI) (hs:a.eval s=sv) (hx:a.eval x=xv)
  (bZ:(ahb #[t,tn] o.type #[sv,xv]).run P w= .ok v W') (h:agS P ops Q rest (a.put o.dst v) W'):agS P ops Q (o::rest) a w:=by
 refine wpList_plain Kz fun K hK=> ?_;unfold Oper.wp;simp[execOp,ho,resolve,invoke,builtin,hs,hx,bZ,afL];exact hK _ _ h
def yK (B:Nat) (v:No) (l:List Ce) (w:AI) (e:Ending) (w':AI):Prop:=
 ∃(S:List Nat) (A:Option Addr) (c:Nat),(∀g∈S,v.ownBlock=some g)/\ah S w w'/\e= .returned (.slice A l.length c)/\ba w' B (.slice A l.length c) l/\∀g,Value.ownBlock (.slice A l.length c)=some g->v.ownBlock=some g\/w.heap.size<=g
end Go.Proofs.YtjbcbnemdhbhbaaGreatDoor
