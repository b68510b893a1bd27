import Derived.Test.YtjbcbnemdhbhbaaGreatDoorB4
import Derived.Test.YtjbcbnemdhbhbaaGreatDoorB1
import Derived.Lib.AppendZerosOnto
import Derived.Deep.DeepAppendWide
import Derived.Laws.CopyRow
set_option maxRecDepth 100000
set_option linter.unusedVariables false
set_option linter.unusedSimpArgs false
set_option maxHeartbeats 40000000
open ByteArray renaming empty→aca
open Exists renaming intro→acD
open Go renaming Calls→aag,Program→afg,TypeId→abW,Value→IS,World→AI,info_parts→aco,maxLen→abi,wpList→agL
open Go.Builtin renaming append_→adL,copy_→agT
open Go.Lib renaming hid→sh
open Go.Op renaming bytesLess→acm
open Go.Result renaming andThen→afH
open Go.RowKit renaming Below→No
open Go.RowKit.Below renaming refl→IN
open Go.Sem renaming run→aen
open Go.World renaming ownsRow_lit→adD
open List renaming getElem?_eq_getElem→aaG,getElem?_eq_some_iff→abA,length_append→BY,take_of_length_le→abI,take_succ_eq_append_getElem→aaT
open Nat renaming add_zero→adi,le_refl→AS,min→aez,mul_one→afQ,zero_add→abU,zero_le→abc
namespace Go.Proofs.YtjbcbnemdhbhbaaGreatDoor
open Go.Proofs.Tryz
open Go.RowKit
theorem aV.lit{w:AI}{S:Nat->Prop}{jC:Nat}{c:Ce}(h:Bk w jC 170 #[.string c.key,.string c.val,.int .i64 c.over,.int .i64 c.size,.int .i64 c.child])(hS:S jC):aV w S ⟨some ⟨jC,0,none⟩,1,1⟩ [c]:=by
 refine⟨rfl,AS _,by unfold abi;show 1<=_;omega,fun i d hd=> ?_⟩;have hi:i<1:=(abA.1 hd).1;obtain rfl:i=0:=by omega
 obtain rfl:c=d:=by simpa using hd
 refine⟨jC,0,c.eH,rfl,⟨hS,h.lt⟩,rfl,fun j u hu=> ?_,rfl⟩;have e:(0+0*5+j)=j:=by omega
 rw[e,h.cell j,<-Array.getElem?_toList];exact hu
theorem Nd.Ju{leaf:Bool}{c:Ce}(h:Nd.aP leaf c=true)(hl:leaf=true):Nd.right leaf [c]=true:=by
 subst hl;simp[Nd.right,Nd.rise,h]
theorem EG(r:Rw)(c:Ce)(S:Nat->Prop)(w:AI)(h:aV w S r [c])(hr:Nd.aP true c=true):aag prog 253 #[.bool true,.slice r.A r.n r.c] w (dF (2+Nd.size true c:Nat) w):=by
 have hrr:=Nd.Ju hr rfl;have C9:=sh fun(W:AI) (hb:No w.heap.size w W)=>xj true r [c] S W (h.below hb) (by simp) hrr;have J4:=sh fun(W:AI) (hb:No w.heap.size w W)=>tY true r [c] S W (h.below hb) (Nd.rC hrr (by simp));obtain⟨N,hN⟩:∃N,N=Nd.sum true [c]:=⟨_,rfl⟩;have HN:=sh (show 2+Nd.size true c=N by rw[hN];simp[Nd.sum]);rw[<-hN]at J4;obtain⟨A,n,cap⟩:=r;simp only at C9 J4 |-;clear h hr hrr hN;go_enter func253,ntmps253
 go_wp2_with (first
  | (go_at_call 268;go_must (refine(C9.out _ (IN _ _)).mono ?_);rintro e w1 ⟨rfl,ar⟩;have dD:=sh ar;clear ar)
  | (go_at_call 254;go_must (refine(J4.out _ dD.out).mono ?_);rintro e w2 ⟨rfl,az⟩;have fY:=sh (dD.out.trans (az.mono dD.out.size));clear az)
  | fail)
 go_ret
 exact fs (by rw[HN.out]) fY.out
theorem Cr(c:Ce)(w:AI)(hr:Nd.aP true c=true):aag prog 219 #[.bool true,.agg #[.string c.key,.string c.val,.int .i64 c.over,.int .i64 c.size,.int .i64 c.child]] w (dF (Nd.size true c:Nat) w):=by
 obtain⟨wl,El⟩:∃W,W=(w.alloc (.cells #[.string c.key,.string c.val,.int .i64 c.over,.int .i64 c.size,.int .i64 c.child] 170)).alloc (.cells #[.string c.key,.string c.val,.int .i64 c.over,.int .i64 c.size,.int .i64 c.child] 170):=⟨_,rfl⟩;have hk:Bk wl (w.heap.size+1) 170 #[.string c.key,.string c.val,.int .i64 c.over,.int .i64 c.size,.int .i64 c.child]:=by
  rw[El];have h:=Bk.new (w.alloc (.cells #[.string c.key,.string c.val,.int .i64 c.over,.int .i64 c.size,.int .i64 c.child] 170)) 170 #[.string c.key,.string c.val,.int .i64 c.over,.int .i64 c.size,.int .i64 c.child]
  rwa [show (w.alloc (.cells #[.string c.key,.string c.val,.int .i64 c.over,.int .i64 c.size,.int .i64 c.child] 170)).heap.size=w.heap.size+1 by simp]at h
 have HB:=sh (show No w.heap.size w wl by rw[El];exact((IN _ w).alloc (AS _) _).alloc (by simp) _);have HC:=sh (EG ⟨some ⟨w.heap.size+1,0,none⟩,1,1⟩ c (fun _=>True) wl (aV.lit hk trivial) hr);have HW:=sh El;obtain⟨N,hN⟩:∃N,N=Nd.size true c:=⟨_,rfl⟩;rw[<-hN]at HC |-;have hNb:N<=223:=by rw[hN];exact(Nd.size_le hr).2
 clear hk El hr hN;go_enter func219,ntmps219
 go_wp2_with (first
  | (go_at_call 253;rw[<-HW.out];go_must (refine HC.out.mono ?_);rintro e w1 ⟨rfl,ar⟩;have dD:=sh (HB.out.trans (ar.mono HB.out.size));clear ar)
  | fail)
 go_ret
 exact fs (by omega) dD.out
theorem vO(c:Ce)(w:AI)(hk:c.key.size<=1000):aag prog 219 #[.bool false,.agg #[.string c.key,.string c.val,.int .i64 c.over,.int .i64 c.size,.int .i64 c.child]] w (dF (Nd.size false c:Nat) w):=by
 obtain⟨key,val,over,size,child⟩:=c;simp only at hk;obtain⟨n,hn⟩:∃n:Int,n=(Nd.size false ⟨key,val,over,size,child⟩:Nat):=⟨_,rfl⟩;rw[<-hn];have HN:=sh (show n=4+(key.size:Int)+4 by rw[hn];unfold Nd.size;simp);clear hn;go_enter func219,ntmps219
 go_wp2_with fail
 go_ret
 exact fs HN.out ((IN _ w).alloc (AS _) _)
theorem ob(leaf:Bool)(c:Ce)(w:AI)(hr:Nd.aP leaf c=true):aag prog 219 #[.bool leaf,.agg #[.string c.key,.string c.val,.int .i64 c.over,.int .i64 c.size,.int .i64 c.child]] w (dF (Nd.size leaf c:Nat) w):=by
 cases leaf with
 | true=>exact Cr c w hr
 | false=>exact vO c w (by have:=Nd.jS hr;omega)
theorem MW(leaf:Bool)(w:AI):aag prog 252 #[.bool leaf] w (fun e w'=>e= .returned (.int .i64 (if leaf then 1 else 2))/\w=w'):=by
 cases leaf
 all_goals
  go_enter func252,ntmps252
  go_wp2_with fail
  go_ret
  exact⟨rfl,rfl⟩
structure Pt where
 key:ByteArray
 leaf:Bool
 cells:List Ce
theorem JB(x:Pt)(r:Rw)(S:Nat->Prop)(w:AI)(h:aV w S r x.cells)(hl:x.cells.length<=10000)(hr:∀c∈x.cells,Nd.aP x.leaf c=true):
  aag prog 222 #[.agg #[.string x.key,.bool x.leaf,.slice r.A r.n r.c]] w (gb (decide (Nd.sum x.leaf x.cells<122)) w):=by
 obtain⟨key,leaf,l⟩:=x;obtain⟨A,n,cap⟩:=r;have gr:=h;obtain⟨h1,h2,h3,-⟩:=gr;simp only at h1 h2 h3 hl hr |-;subst h1;obtain⟨q,hq⟩:∃q,q=decide (Nd.sum leaf l<122):=⟨_,rfl⟩;rw[<-hq];have HQ:=sh hq;have HL:=sh hr;have dC:cap<=9223372036854775807:=by unfold abi at h3;omega
 obtain⟨wa,Tw⟩:∃W,W=w.alloc (.cells #[.string key,.bool leaf,.slice A l.length cap] 319):=⟨_,rfl⟩;have gX:No w.heap.size w wa:=by rw[Tw];exact(IN _ w).alloc (AS _) _
 have HKA:=sh (show Bk wa w.heap.size 319 #[.string key,.bool leaf,.slice A l.length cap]by rw[Tw];exact Bk.new w _ _);have HR:=sh (h.below gX);have TK:=sh gX;have HWA:=sh Tw;have p2:wa.cell? ⟨w.heap.size,2,none⟩=some (.slice A l.length cap):=HKA.out.cell 2;have la:=HKA.out.lt;clear h h3 hq hr gX Tw;go_enter func222,ntmps222
 go_upto_region 2 with fail
 rw[<-HWA.out];go_wp2_with fail
 go_loopw [3,9] (fun u i wr=>∃(j y:Nat),i= .int .i64 j/\u= .int .i64 y/\j<=l.length/\y<=2+223*j/\Hid (y=2+((l.take j).map (Nd.size leaf)).sum)/\No wa.heap.size wa wr) (fun _ i _=>l.length-(intOf i).toNat)
 case atStart=>exact⟨0,2,rfl,rfl,abc _,by omega,sh (by simp),IN _ _⟩
 case round=>
  obtain⟨j,y,rfl,rfl,hj,hy,HY,eO⟩:=hrel;have fO:=sh eO;by_cases aI:j<l.length
  ·have z1:decide ((j:Int)<(l.length:Int))=true:=decide_eq_true (by omega)
   obtain⟨b,o,hA,hS,q0,q1,q2,q3,q4⟩:=(HR.out.below eO).at j aI;simp only at hA;subst hA;have gH:=hS.2;have eW:=HL.out _ (List.getElem_mem aI);have cZ:=(Nd.size_le eW).2;have HC:=sh fun(W:AI)=>ob leaf l[j] W eW;have HT:=sh (show ((l.take (j+1)).map (Nd.size leaf)).sum=((l.take j).map (Nd.size leaf)).sum+Nd.size leaf l[j]by rw[aaT aI,List.map_append,List.sum_append];simp);obtain⟨z,hz⟩:∃z,z=Nd.size leaf l[j]:=⟨_,rfl⟩;rw[<-hz]at HC HT cZ;obtain⟨x,hx⟩:∃x,x=l[j]:=⟨_,rfl⟩;rw[<-hx]at HC q0 q1 q2 q3 q4;have OZ:=af HKA.out eO;have s1:wr.cell? ⟨w.heap.size,1,none⟩=some (.bool leaf):=OZ.cell 1;have lr:=OZ.lt;clear hS eW hz hx eO OZ;go_wp2_with (first
    | (go_at_call 219;go_must (refine(HC.out _).mono ?_);rintro e w2 ⟨rfl,az⟩;have bz:=sh (fO.out.trans ((bN az).2.2.2.2.2.2.1.mono fO.out.size));clear az)
    | fail)
   go_roundw
   case rel=>first|exact⟨j+1,y+z,by go_num,by go_num,by omega,by omega,sh (by rw[HT.out,HY.out];omega),bz.out⟩|((repeat apply acD);exact⟨⟨j+1,y+z,by go_num,by go_num,by omega,by omega,sh (by rw[HT.out,HY.out];omega),bz.out⟩,rfl⟩)
   case measure=>simp[intOf];omega
  ·have z1:decide ((j:Int)<(l.length:Int))=false:=decide_eq_false (by omega)
   have HV:=sh (show q=decide (y<122)by rw[HQ.out,HY.out,abI (by omega)];rfl);clear eO;by_cases hs:y<122
   ·have y1:decide ((y:Int)<122)=true:=decide_eq_true (by omega)
    have uN:=sh (show q=true by rw[HV.out];exact decide_eq_true hs);clear hs;go_wp2_with fail
    go_ret
    exact dZ uN.out (TK.out.trans (fO.out.mono TK.out.size))
   ·have y1:decide ((y:Int)<122)=false:=decide_eq_false (by omega)
    have uN:=sh (show q=false by rw[HV.out];exact decide_eq_false hs);clear hs;go_wp2_with fail
    go_ret
    exact dZ uN.out (TK.out.trans (fO.out.mono TK.out.size))
namespace Nd
def spot (l:List Ce) (key:ByteArray):Nat:=l.findIdx fun c=> !lt c.key key
def has (l:List Ce) (key:ByteArray):Bool:=match l[spot l key]? with|some c=>c.key.toList==key.toList|none=>false
theorem hJ(l:List Ce)(key:ByteArray):spot l key<=l.length:=List.findIdx_le_length
theorem yS(l:List Ce)(key:ByteArray)(j:Nat)(hj:j<=l.length)(h1:∀i (h:i<j),lt (l[i]'(by omega)).key key=true)(h2:∀h:j<l.length,lt l[j].key key=false):spot l key=j:=by
 unfold spot;by_cases aI:j<l.length
 ·rw[List.findIdx_eq aI]
  exact⟨by rw[h2 aI];rfl,fun i hi=>by rw[h1 i hi];rfl⟩
 ·obtain rfl:j=l.length:=by omega
  rw[List.findIdx_eq_length];intro x hx;obtain⟨i,hi,rfl⟩:=List.getElem_of_mem hx;rw[h1 i hi];rfl
end Nd
theorem xc(r:Rw)(l:List Ce)(key:ByteArray)(S:Nat->Prop)(w:AI)(h:aV w S r l)(hl:l.length<=10000):
  aag prog 106 #[.slice r.A r.n r.c,.string key] w (fun e w'=>e= .returned (.tuple #[.int .i64 (Nd.spot l key:Nat),.bool (Nd.has l key)])/\No w.heap.size w w'):=by
 obtain⟨A,n,cap⟩:=r;have gr:=h;obtain⟨h1,h2,h3,-⟩:=gr;simp only at h1 h2 h3 |-;subst h1;obtain⟨p,hp⟩:∃p,p=Nd.spot l key:=⟨_,rfl⟩;obtain⟨q,hq⟩:∃q,q=Nd.has l key:=⟨_,rfl⟩;have HP:=sh hp;have HQ:=sh hq;rw[<-hp,<-hq];have HR:=sh h;have dC:cap<=9223372036854775807:=by unfold abi at h3;omega
 clear h h3 hp hq;go_enter func106,ntmps106
 go_wp2_with fail
 go_loopw [6] (fun i wr=>∃(j:Nat),i= .int .i64 j/\j<=l.length/\Hid (∀i (h:i<j) (h':i<l.length),Nd.lt l[i].key key=true)/\wr=w) (fun i _=>l.length-(intOf i).toNat)
 case atStart=>exact⟨0,rfl,abc _,sh (fun i h=>by omega),by first|rfl|trivial⟩
 case round=>
  obtain⟨j,rfl,hj,HA,rfl⟩:=hrel;by_cases aI:j<l.length
  ·have z1:decide ((j:Int)<(l.length:Int))=true:=decide_eq_true (by omega)
   obtain⟨b,o,hA,hS,q0,-⟩:=HR.out.at j aI;simp only at hA;subst hA;have gH:=hS.2;obtain⟨x,hx⟩:∃x,x=l[j]:=⟨_,rfl⟩;rw[<-hx]at q0;have HX:=sh hx;clear hS hx;cases hc:Nd.lt x.key key with
   | true=>
    have y1:acm x.key.toList key.toList=true:=hc;have HN:=sh (show ∀i (h:i<j+1) (h':i<l.length),Nd.lt l[i].key key=true from fun i h h'=>by
     by_cases e:i=j
     ·subst e;rw[<-HX.out];exact hc
     ·exact HA.out i (by omega) h')
    clear hc;go_wp2_with fail
    go_roundw
    case rel=>first|exact⟨j+1,by go_num,by omega,HN,by first|rfl|trivial⟩|((repeat apply acD);exact⟨⟨j+1,by go_num,by omega,HN,by first|rfl|trivial⟩,rfl⟩)
    case measure=>simp[intOf];omega
   | false=>
    have y1:acm x.key.toList key.toList=false:=hc;have HV:=sh (show p=j from HP.out.trans (Nd.yS l key j hj (fun i h=>HA.out i h (by omega)) (fun _=>by rw[<-HX.out];exact hc)));have hq:q=(x.key.toList==key.toList):=by
     rw[HQ.out];unfold Nd.has;rw[<-HP.out,HV.out,aaG aI,<-HX.out]
    clear hc;cases hk:(x.key.toList==key.toList)with
    | true=>
     have uN:=sh (show q=true by rw[hq,hk]);clear hq;go_wp2_with fail
     go_quiet (fail)
     go_wp2_with fail
     go_ret2
     exact⟨by rw[HV.out,uN.out];rfl,below_drewN (IN _ _) _⟩
    | false=>
     have uN:=sh (show q=false by rw[hq,hk]);clear hq;go_wp2_with fail
     go_quiet (fail)
     go_wp2_with fail
     go_ret2
     exact⟨by rw[HV.out,uN.out];rfl,below_drewN (IN _ _) _⟩
  ·have z1:decide ((j:Int)<(l.length:Int))=false:=decide_eq_false (by omega)
   obtain rfl:j=l.length:=by omega
   have HV:=sh (show p=l.length from HP.out.trans (Nd.yS l key _ (AS _) (fun i h=>HA.out i h h) (fun h=>by omega)));have uN:=sh (show q=false by
    rw[HQ.out];unfold Nd.has;rw[<-HP.out,HV.out,List.getElem?_eq_none (AS _)])
   go_wp2_with fail
   go_quiet (fail)
   go_wp2_with fail
   go_ret2
   exact⟨by rw[HV.out,uN.out];rfl,below_drewN (IN _ _) _⟩
theorem bg{w:AI}{B:Nat}{e:abW}{s n:Nat}{v:IS}{xs:List IS}(h:w.ownsRow B e s v n xs):∃A c,v= .slice A n c/\(n≠0->∃g,A=some ⟨g,0,none⟩)/\c<=abi:=by
 rcases h.2 with⟨rfl,rfl⟩|⟨g,cap,_,rfl,_,_,_,hc,_⟩
 ·exact⟨none,0,rfl,fun h=>absurd rfl h,abc _⟩
 ·exact⟨_,cap,rfl,fun _=>⟨g,rfl⟩,hc⟩
section
variable {P:afg} (w:AI)
theorem yQ(base:Nat)(t ty e:abW)(i:TypeInfo)(z:IS)(size bytes:Nat)(ht:P.underlying t=some (.slice e))(hi:P.info? e=some i)(hz:i.zero=some z)
  (tK:i.size=size) (Vc:i.bytes=bytes) (Wf:z.cells.size=size) (h0:0<size)
  (v:IS) (n:Nat) (xs:List IS) (au:w.ownsRow base e size v n xs)
  (A:Option Addr) (m c:Nat) (news:List IS) (hm:news.length=m*size) (hA:A=none->m=0) (hr:∀ad,A=some ad->∀j u,news[j]? =some u->w.cell? (ad.add j)=some u) (h1:∀u∈news,u.oneCell'=true)
  (US:n+m<=abi) (nN:(n+m)*bytes<=140737488355328) (tw:base<=w.heap.size):
  ∃v' w',(adL #[t,t] ty #[v,.slice A m c]).run P w= .ok v' w'/\w'.ownsRow base e size v' (n+m) (xs++news)/\w.grownBy w' v.ownBlock/\
   (v'.ownBlock=v.ownBlock\/v'.ownBlock=some w.heap.size):=by
 rcases A with _|ad
 ·have yw:=hA rfl
  subst yw;have hn:news=[]:=List.eq_nil_of_length_eq_zero (by omega);subst hn;exact⟨v,w,run_append_nil w base t ty e i size ht hi v n xs au c,by simpa using au,World.grownBy.refl w _,.inl rfl⟩
 ·obtain⟨v',w',cm,h2,h3,_,h5⟩:=run_append_own_at (P:=P) w base t ty e i z size bytes ht hi hz tK Vc Wf h0 v n xs au ad m c news hm (hr ad rfl) h1 US nN tw
  exact⟨v',w',cm,h2,h3,h5⟩
theorem aD{ops:Array Oper}{rest:List Oper}{o:Oper}{a:Act}{Q:Exit->Act->AI->Prop}(Kh:o.guard=none)(s x:Operand)(t:abW)
  (ho:o.op= .call { callee:= .builtin .append,args:= #[s,x],argTypes:= #[t,t] })
  (base:Nat) (e:abW) (i:TypeInfo) (z:IS) (size bytes:Nat) (ht:P.underlying t=some (.slice e)) (hi:P.info? e=some i) (hz:i.zero=some z)
  (tK:i.size=size) (Vc:i.bytes=bytes) (Wf:z.cells.size=size) (h0:0<size)
  (v:IS) (n:Nat) (xs:List IS) (hs:a.eval s=v) (au:w.ownsRow base e size v n xs)
  (A:Option Addr) (m c:Nat) (news:List IS) (hx:a.eval x= .slice A m c) (hm:news.length=m*size) (hA:A=none->m=0) (hr:∀ad,A=some ad->∀j u,news[j]? =some u->w.cell? (ad.add j)=some u) (h1:∀u∈news,u.oneCell'=true)
  (US:n+m<=abi) (nN:(n+m)*bytes<=140737488355328) (tw:base<=w.heap.size)
  (h:∀A' c' w',w'.ownsRow base e size (.slice A' (n+m) c') (n+m) (xs++news)->w.grownBy w' v.ownBlock->agL P ops Q rest (a.put o.dst (.slice A' (n+m) c')) w'):agL P ops Q (o::rest) a w:=by
 refine wpList_plain Kh fun K hK=> ?_;obtain⟨v',w',cm,h2,h3,h4⟩:=yQ (P:=P) w base t o.type e i z size bytes ht hi hz tK Vc Wf h0 v n xs au A m c news hm hA hr h1 US nN tw;obtain⟨A',c',rfl,-,-⟩:=bg h2;unfold Oper.wp execOp;simp only[ho,resolve,invoke,builtin,Sem.run_bind,Sem.run_pure,Result.andThen_ok,List.map_toArray,List.map_cons,List.map_nil,hs,hx,cm];exact hK _ _ (h A' c' w' h2 h3)
end
theorem aV.flat{w:AI}{S:Nat->Prop}{r:Rw}{l:List Ce}(h:aV w S r l){b o:Nat}(hA:r.A=some ⟨b,o,none⟩):∀(j:Nat) (u:IS),(ay l)[j]? =some u->w.cell? ⟨b,o+j,none⟩=some u:=by
 intro j u hu;have hj:j<(ay l).length:=(abA.1 hu).1;rw[bD]at hj;have hi:j/5<l.length:=by omega
 have he:j/5*5+j%5=j:=by omega
 obtain⟨h1,h2,h3,h4⟩:=h;obtain⟨b',o',c,q1,q2,q3,q4,q5⟩:=h4 (j/5) l[j/5] (aaG hi);unfold GX at q5;subst q5;rw[hA]at q1;injection q1 with q1;injection q1 with e1 e2;subst e1 e2;have hg:=Ic l (j/5) hi (j%5) (by omega);rw[he]at hg;rw[hg]at hu;have:=q4 (j%5) u hu
 rwa [show o+j/5*5+j%5=o+j by omega]at this
def iq (l:List Ce) (w:AI) (e:Ending) (w':AI):Prop:=No w.heap.size w w'/\∃(A:Option Addr) (c:Nat),e= .returned (.slice A l.length c)/\aZ w' w.heap.size (.slice A l.length c) l
theorem bI(b o j:Nat):(⟨b,o,none⟩:Addr).add j=⟨b,o+j,none⟩:=by unfold Addr.add;split<;>simp_all
theorem my(r:Rw)(l:List Ce)(S:Nat->Prop)(w:AI)(h:aV w S r l)(h0:0<l.length)(hl:l.length<=10000):aag prog 221 #[.slice r.A r.n r.c] w (iq l w):=by
 obtain⟨i0,hi,ef,dK,dY⟩:=aco dX;obtain⟨A,n,cap⟩:=r;have gr:=h;obtain⟨h1,h2,h3,-⟩:=gr;simp only at h1 h2 h3 |-;subst h1;obtain⟨b,o,hA,hS,-⟩:=h.at 0 h0;simp only at hA;subst hA;have HF:=sh (h.flat (b:=b) (o:=o) rfl);have gH:=hS.2;have dC:cap<=9223372036854775807:=by unfold abi at h3;omega
 have IJ:∀W,aen prog (binOp BinOp.eql 174 (.slice (some ⟨b,o,none⟩) l.length cap) (.slice none 0 0)) W= .ok (.bool false) W:=fun W=>by kernel_rfl
 have zu:=sh (show (w.alloc (.cells #[] 170)).ownsRow w.heap.size 170 5 (.slice (some ⟨w.heap.size,0,none⟩) 0 0) 0 [] from adD w #[] 0 (AS _) (abc _) rfl);have KF:=sh (show ∀(j:Nat) (u:IS),(ay l)[j]? =some u->(w.alloc (.cells #[] 170)).cell? ((⟨b,o,none⟩:Addr).add j)=some u from fun j u hu=>by
  rw[bI];exact(((IN w.heap.size w).alloc (AS _) _).cell (p:=⟨b,o+j,none⟩) gH).trans (HF.out j u hu))
 clear h h3 hS;go_enter func221,ntmps221
 go_wp2_with (at_builtin;refine wpList_append_lies _ rfl (.tmp 5) (.tmp 6) 174 rfl w.heap.size 170 i0 _ 5 56 underlying174 hi ef dK dY rfl (by omega) (.slice (some ⟨w.heap.size,0,none⟩) 0 0) 0 [] rfl zu.out ⟨b,o,none⟩ l.length cap (ay l) rfl (bD l) KF.out (dW l) h0 (by unfold abi;omega) (by omega) (by simp) (w.heap.size+1) (by simp) ?_;intro gg gA w3 aw aF df tB)
 have jZ:=sh (show aZ w3 w.heap.size (.slice (some ⟨gg,0,none⟩) l.length gA) l by
  unfold aZ;rw[abU,List.nil_append]at aw;exact aw)
 have dN:=sh (((ah.ae ((IN _ w).alloc (AS _) (.cells #[] 170)) []).grown aF (fun g hg=> .inr (zu.out.lt g hg).1)).below (AS _) (by simp));clear aw aF df;go_wp2_with fail
 go_ret
 exact⟨dN.out,_,_,rfl,jZ.out⟩
theorem DB(r:Rw)(S:Nat->Prop)(w:AI)(h:aV w S r []):aag prog 221 #[.slice r.A r.n r.c] w (iq [] w):=by
 obtain⟨i0,hi,ef,dK,dY⟩:=aco dX;obtain⟨A,n,cap⟩:=r;have gr:=h;obtain⟨h1,h2,h3,-⟩:=gr;simp only[List.length_nil]at h1 h2 h3 |-;subst h1;clear h;cases A with
 | none=>
  have IJ:∀W,aen prog (binOp BinOp.eql 174 (.slice none 0 cap) (.slice none 0 0)) W= .ok (.bool true) W:=fun W=>by kernel_rfl
  go_enter func221,ntmps221
  go_wp2_with fail
  go_ret
  exact⟨IN _ _,none,0,rfl,World.ownsRow_nil _ _ _ _⟩
 | some ad=>
  have IJ:∀W,aen prog (binOp BinOp.eql 174 (.slice (some ad) 0 cap) (.slice none 0 0)) W= .ok (.bool false) W:=fun W=>by kernel_rfl
  have zu:=sh (show (w.alloc (.cells #[] 170)).ownsRow w.heap.size 170 5 (.slice (some ⟨w.heap.size,0,none⟩) 0 0) 0 [] from adD w #[] 0 (AS _) (abc _) rfl);have dC:cap<=9223372036854775807:=by unfold abi at h3;omega
  go_enter func221,ntmps221
  go_wp2_with (at_builtin;refine aD _ rfl (.tmp 5) (.tmp 6) 174 rfl w.heap.size 170 i0 _ 5 56 underlying174 hi ef dK dY rfl (by omega) (.slice (some ⟨w.heap.size,0,none⟩) 0 0) 0 [] rfl zu.out (some ad) 0 cap [] rfl rfl (fun h=>by cases h) (fun _ _ _ _ h=>by simp at h) (by simp) (by unfold abi;omega) (by omega) (by simp) ?_;intro gg gA w3 aw aF)
  have jZ:=sh (show aZ w3 w.heap.size (.slice gg 0 gA) []by
   unfold aZ;exact aw)
  have dN:=sh (((ah.ae ((IN _ w).alloc (AS _) (.cells #[] 170)) []).grown aF (fun g hg=> .inr (zu.out.lt g hg).1)).below (AS _) (by simp));clear aw aF;go_wp2_with fail
  go_ret
  exact⟨dN.out,_,_,rfl,jZ.out⟩
theorem wpList_append_run{P:afg}{w:AI}{ops:Array Oper}{rest:List Oper}{o:Oper}{a:Act}{Q:Exit->Act->AI->Prop}(Kh:o.guard=none)(s x:Operand)(t tn:abW)
  (ho:o.op= .call { callee:= .builtin .append,args:= #[s,x],argTypes:= #[t,tn] }) (sv xv v:IS) (W':AI) (hs:a.eval s=sv) (hx:a.eval x=xv)
  (cm:(adL #[t,tn] o.type #[sv,xv]).run P w= .ok v W') (h:agL P ops Q rest (a.put o.dst v) W'):agL P ops Q (o::rest) a w:=by
 refine wpList_plain Kh fun K hK=> ?_;unfold Oper.wp;simp[execOp,ho,resolve,invoke,builtin,hs,hx,cm,afH];exact hK _ _ h
def UD (n:Nat) (w:AI) (e:Ending) (w':AI):Prop:=No w.heap.size w w'/\∃(g c:Nat),e= .returned (.slice (some ⟨g,0,none⟩) 0 c)/\n<=c/\w'.ownsRow w.heap.size 170 5 (.slice (some ⟨g,0,none⟩) 0 c) 0 []
theorem LS(n:Nat)(w:AI)(h0:0<n)(hn:n<=10000):aag prog 256 #[.slice none 0 0,.int .i64 n] w (UD n w):=by
 obtain⟨i0,hi,ef,dK,dY⟩:=aco dX;have z1:decide ((n:Int)<0)=false:=decide_eq_false (by omega);have z2:decide ((0:Int)<(n:Int))=true:=decide_eq_true (by omega);have Iu:=nextslicecap_le_wide (need:=0+n) (old:=0) (by omega);have xL:=sh fun(W:AI)=>Lib.run_append_grow_zeros (P:=prog) W 174 3 174 170 i0 _ .i64 .i64 underlying174 underlying3 hi ef none 0 0 [] (by simp[Builtin.firstCells]) n h0 (by rw[dK];omega) (by omega) (by omega) (by rw[dY];omega) (by rw[dY];have:=Nat.mul_le_mul_right 56 Iu;omega);have jr:∀W:AI,∃c,n<=c/\∃cur:Array IS,cur.size=c*5/\c<=abi/\(adL #[174,3] 174 #[.slice none 0 0,.int .i64 n]).run prog W= .ok (.slice (some ⟨W.heap.size,0,none⟩) n c) (W.drew.alloc (.cells cur 170)):=fun W=>by
  have h:=xL.out W;rw[abU]at h;have yt:=grownCap_ge W n 0 170;refine⟨_,yt,_,?_,grownCap_le_maxLen W n 0 _ (by unfold abi;omega),h⟩;have e5:(Value.agg #[.string aca,.string aca,.int .i64 0,.int .i64 0,.int .i64 0]).cells.size=5:=rfl;simp only[Array.size_append,size_zeroCells,e5];simp;omega
 obtain⟨c,hc,cur,fu,dC,HW⟩:=jr w;have HC:=sh fu;have CS:c<=9223372036854775807:=by unfold abi at dC;omega
 have HM:=sh dC;have Sn:=sh HW;clear Iu jr fu dC xL HW;go_enter func256,ntmps256
 go_wp2_with (at_builtin;refine wpList_append_run rfl (.tmp 20) (.tmp 21) 174 3 rfl _ _ _ _ rfl rfl Sn.out ?_)
 go_ret
 refine⟨(IN _ w).drew.alloc (AS _) _,_,c,rfl,hc,?_⟩;refine⟨rfl,.inr ⟨w.heap.size,c,cur,rfl,AS _,?_,abc _,HM.out,HC.out,rfl⟩⟩;exact heap_alloc_new w.drew _
def PG (w:AI) (S:Nat->Prop) (l:List Ce) (c:List IS):Prop:=∃(A:Option Addr) (n cap:Nat),c=[.slice A n cap]/\aV w S ⟨A,n,cap⟩ l
theorem Ca:pT PG:=fun hs hk hT d c h=>by
 obtain⟨A,n,cap,h1,h2⟩:=h;exact⟨A,n,cap,h1,h2.keep hs hk hT⟩
theorem ke(r:Rw)(ls:List (List Ce))(S:Nat->Prop)(w:AI)(h:fR 1 PG w S r ls)(h0:0<ls.flatten.length)(hl:ls.flatten.length<=10000)(S9:ls.length<=10):
  aag prog 224 #[.slice r.A r.n r.c] w (iq ls.flatten w):=by
 obtain⟨i0,hi,ef,dK,dY⟩:=aco dX;obtain⟨A,n,cap⟩:=r;have gr:=h;obtain⟨h1,h2,h3,-⟩:=gr;simp only at h1 h2 h3 |-;subst h1;have HR:=sh h;have dC:cap<=9223372036854775807:=by unfold abi at h3;omega
 obtain⟨T,hT⟩:∃T,T=ls.flatten.length:=⟨_,rfl⟩;have HT:=sh hT;rw[<-hT]at h0 hl;have HTJ:=sh (show ∀j,(ls.take j).flatten.length<=T from fun j=>by
  have e:ls.flatten=(ls.take j).flatten++(ls.drop j).flatten:=by rw[<-List.flatten_append,List.take_append_drop]
  rw[hT,e,BY];omega)
 have HG:=sh fun(W:AI)=>LS T W h0 hl;clear h h3 hT;go_enter func224,ntmps224
 go_wp2_with fail
 go_loopw [3,11] (fun u i wr=>∃(j y:Nat),i= .int .i64 j/\u= .int .i64 y/\j<=ls.length/\y<=10000/\Hid (y=(ls.take j).flatten.length)/\wr=w) (fun _ i _=>ls.length-(intOf i).toNat)
 case atStart=>exact⟨0,0,rfl,rfl,abc _,by omega,sh (by simp),by first|rfl|trivial⟩
 case round=>
  obtain⟨j,y,rfl,rfl,hj,hy,HY,hwr⟩:=hrel;obtain rfl:w=wr:=hwr.symm;by_cases aI:j<ls.length
  ·have z1:decide ((j:Int)<(ls.length:Int))=true:=decide_eq_true (by omega)
   obtain⟨b,o,c,hA,hS,od,Aw,cL⟩:=HR.out.2.2.2 j ls[j] (aaG aI);simp only at hA;subst hA;have gH:=hS.2;obtain⟨A2,n2,c2,rfl,bc⟩:=cL;have q0:w.cell? ⟨b,o+j,none⟩=some (.slice A2 n2 c2):=by have:=Aw 0 _ rfl;rw[afQ,adi]at this;exact this
   have jv:n2=ls[j].length:=bc.1;have hts:(ls.take (j+1)).flatten.length=(ls.take j).flatten.length+n2:=by
    rw[jv,aaT aI,List.flatten_append,BY];simp
   have hT1:=HTJ.out (j+1);have hyz:y+n2<=10000:=by have:=HY.out;omega
   have HY2:=sh (show y+n2=(ls.take (j+1)).flatten.length by rw[hts,<-HY.out]);have z3:decide (((y:Int)+(n2:Int))<0)=false:=decide_eq_false (by omega);clear hS od Aw bc jv hts hT1;go_wp2_with fail
   go_roundw
   case rel=>first|exact⟨j+1,y+n2,by go_num,by go_num,by omega,hyz,HY2,by first|rfl|trivial⟩|((repeat apply acD);exact⟨⟨j+1,y+n2,by go_num,by go_num,by omega,hyz,HY2,by first|rfl|trivial⟩,rfl⟩)
   case measure=>simp[intOf];omega
  ·have z1:decide ((j:Int)<(ls.length:Int))=false:=decide_eq_false (by omega)
   have hyT:y=T:=by rw[HY.out,abI (by omega),HT.out]
   subst hyT;clear HY hy;go_wp2_with (first
    | (go_at_call 256;go_must (refine(HG.out _).mono ?_);rintro e w1 ⟨ar,g,c,rfl,hgc,au⟩;have bh:=sh ar;have iN:=sh au;clear ar au)
    | fail)
   go_loopw [6,27] (fun u i w2=>∃(k:Nat),i= .int .i64 k/\k<=ls.length/\aZ w2 w.heap.size u (ls.take k).flatten/\No w.heap.size w w2) (fun _ i _=>ls.length-(intOf i).toNat)
   case atStart=>exact⟨0,rfl,abc _,iN.out,bh.out⟩
   case round=>
    obtain⟨k,rfl,hk,how,eO⟩:=hrel;have fO:=sh eO;have sL:=sh how;by_cases SY:k<ls.length
    ·have z2:decide ((k:Int)<(ls.length:Int))=true:=decide_eq_true (by omega)
     obtain⟨b,o,c9,hA,hS,od,Aw,cL⟩:=(fR.keep Ca HR.out eO.size (T:=S) (fun x _ hx=>eO.block x hx) (fun _ h _=>h)).2.2.2 k ls[k] (aaG SY);simp only at hA;subst hA;have gH:=hS.2;obtain⟨A2,n2,c2,rfl,bc⟩:=cL;have q0:wr.cell? ⟨b,o+k,none⟩=some (.slice A2 n2 c2):=by have:=Aw 0 _ rfl;rw[afQ,adi]at this;exact this
     have jv:n2=ls[k].length:=bc.1;have HNO:=sh (show A2=none->n2=0 from fun hA=>by
      by_cases h9:0<ls[k].length
      ·obtain⟨b,o,nM,-⟩:=bc.at 0 h9
       simp only at nM;rw[hA]at nM;cases nM
      ·omega)
     have HF:=sh (show ∀ad,A2=some ad->∀(j:Nat) (u:IS),(ay ls[k])[j]? =some u->wr.cell? (ad.add j)=some u from fun ad eo j u hu=>by
      have h9:0<ls[k].length:=by
       have h8:=(abA.1 hu).1;rw[bD]at h8;omega
      obtain⟨b,o,nM,-⟩:=bc.at 0 h9;simp only at nM;rw[nM]at eo;injection eo with eo;subst eo;rw[bI];exact bc.flat nM j u hu)
     have PA:=sh (show (ls.take (k+1)).flatten=(ls.take k).flatten++ls[k]by
      rw[aaT SY,List.flatten_append];simp)
     have hT1:=HTJ.out (k+1);have hlen:(ls.take k).flatten.length+n2<=10000:=by rw[PA.out,BY]at hT1;omega
     have ZH:=fO.out.size;obtain⟨x,hx⟩:∃x,x=ls[k]:=⟨_,rfl⟩;rw[<-hx]at HF PA jv;obtain⟨m,hm⟩:∃m,m=(ls.take k).flatten.length:=⟨_,rfl⟩;have HOM:=sh (show wr.ownsRow w.heap.size 170 5 u6 m (ay (ls.take k).flatten)by rw[hm];exact how);have TY:=sh (show (ay x).length=n2*5 by rw[bD,jv]);have G0:=sh hm;have QC:m+n2<=10000:=by omega
     have fY:=sh jv;clear how eO hS od Aw bc hT1 hx hm jv hlen;go_wp2_with (at_builtin;refine aD _ rfl (.tmp 31) (.tmp 32) 174 rfl w.heap.size 170 i0 _ 5 56 underlying174 hi ef dK dY rfl (by omega) u6 m (ay (ls.take k).flatten) rfl HOM.out A2 n2 c2 (ay x) rfl TY.out HNO.out HF.out (dW x) (by unfold abi;omega) (by omega) ZH ?_;intro A' c' w3 aw aF)
     have jZ:=sh (show aZ w3 w.heap.size (.slice A' (m+n2) c') (ls.take (k+1)).flatten by
      unfold aZ;rw[PA.out,bR,BY,<-G0.out,<-fY.out];exact aw)
     have dN:=sh (((ah.ae fO.out []).grown aF (fun g hg=> .inr (HOM.out.lt g hg).1)).below (AS _) (by simp));clear aw aF;go_wp2_with fail
     go_roundw
     case rel=>first|exact⟨k+1,by go_num,by omega,jZ.out,dN.out⟩|((repeat apply acD);exact⟨⟨k+1,by go_num,by omega,jZ.out,dN.out⟩,rfl⟩)
     case measure=>simp[intOf];omega
    ·have z2:decide ((k:Int)<(ls.length:Int))=false:=decide_eq_false (by omega)
     obtain rfl:k=ls.length:=by omega
     rw[List.take_length]at sL;obtain⟨r,Gk,qh⟩:=sL.out.row;obtain⟨rA,rn,rc⟩:=r;simp only at Gk;have Gg:rn=ls.flatten.length:=qh.1;subst Gk;subst Gg;clear how eO qh;go_wp2_with fail
     go_ret
     exact⟨fO.out,rA,rc,rfl,sL.out⟩
theorem na{P:afg}(w:AI)(dT sT ty elem:abW)(k g o rR DF:Nat)(a:Addr)(qC Cf:Nat)(cur:Array IS)(t:abW)(cs:List IS)
  (hu:P.underlying dT=some (.slice elem)) (hs:(P.info? elem).map (·.size)=some k)
  (hg:w.heap[g]? =some (.cells cur t (0,0))) (hn:cs.length=aez qC rR*k)
  (A9:∀j v,cs[j]? =some v->w.cell? (a.add j)=some v) (gf:o+cs.length<=cur.size) (h1:∀v∈cs,v.oneCell'=true):
  (agT #[dT,sT] ty #[.slice (some ⟨g,o,none⟩) rR DF,.slice (some a) qC Cf]).run P w=
   .ok (goInt (aez qC rR)) (w.setRow g (cur.toList.take o++cs++cur.toList.drop (o+cs.length)).toArray):=by
 have bm:=run_storeCells_at P g o t cs 0 cur w hg (by simpa using gf) h1;cases hq:P.info? elem with
 | none=>simp[hq]at hs
 | some i=>
  have hi:i.size=k:=by simpa[hq]using hs
  have hf:=run_firstCells_some (P:=P) w k (aez qC rR) a qC Cf cs hn A9;simp[agT,run_underlying hu,Builtin.lenOf,sizeOf,typeInfo,hq,hi,hf,bm]
theorem bU{P:afg}{w:AI}{ops:Array Oper}{rest:List Oper}{o:Oper}{a:Act}{Q:Exit->Act->AI->Prop}(Kh:o.guard=none)(s x:Operand)(t tn:abW)
  (ho:o.op= .call { callee:= .builtin .copy,args:= #[s,x],argTypes:= #[t,tn] }) (sv xv v:IS) (W':AI) (hs:a.eval s=sv) (hx:a.eval x=xv)
  (cm:(agT #[t,tn] o.type #[sv,xv]).run P w= .ok v W') (h:agL P ops Q rest (a.put o.dst v) W'):agL P ops Q (o::rest) a w:=by
 refine wpList_plain Kh fun K hK=> ?_;unfold Oper.wp;simp[execOp,ho,resolve,invoke,builtin,hs,hx,cm,afH];exact hK _ _ h
def xZ (B:Nat) (v:IS) (l:List Ce) (w:AI) (e:Ending) (w':AI):Prop:=
 ∃(S:List Nat) (A:Option Addr) (c:Nat),(∀g∈S,v.ownBlock=some g)/\ah S w w'/\e= .returned (.slice A l.length c)/\aZ w' B (.slice A l.length c) l/\∀g,Value.ownBlock (.slice A l.length c)=some g->v.ownBlock=some g\/w.heap.size<=g
end Go.Proofs.YtjbcbnemdhbhbaaGreatDoor
