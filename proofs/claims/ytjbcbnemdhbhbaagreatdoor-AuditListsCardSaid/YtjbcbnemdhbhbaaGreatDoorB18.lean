import Derived.Test.YtjbcbnemdhbhbaaGreatDoorB3
import Derived.Test.YtjbcbnemdhbhbaaGreatDoorB5
import Derived.Test.YtjbcbnemdhbhbaaGreatDoorB6
set_option maxRecDepth 100000
set_option linter.unusedVariables false
set_option linter.unusedSimpArgs false
set_option maxHeartbeats 40000000
open Bool renaming false_ne_true→agZ
open Go renaming World→AI,bodyPost_ret→abT,results→acN
open Go.Lib renaming hid→sh
open Go.RowKit renaming Below→No
open Go.RowKit.Below renaming refl→IN
open Go.Value renaming int→acK
open List renaming getElem?_eq_getElem→aaG
open Nat renaming le_refl→AS
namespace Go.Proofs.YtjbcbnemdhbhbaaGreatDoor
open Go.Proofs.Tryz
open Go.RowKit
theorem Fc(n:Nat)(hn:n<=1000)(g:Nat->Bool)(hg:∀i j,i<=j->g i=true->g j=true)(fc:Nat)(cR:Array Value)(w:AI)(ZJ:∀args W,Sem.run prog (callFunc fc args) W= .ok (.enter fc args) W)
  (h:∀(i:Nat) (W:AI),i<n->No w.heap.size w W->Calls prog fc (#[.int .i64 i]++cR) W (gb (g i) W)) (p:Nat) (hp:p<=n) (AU:∀i,i<p->g i=false) (qY:∀i,p<=i->i<n->g i=true):
  Calls prog 234 #[.int .i64 n,.func (.func fc) #[] cR] w (fun e w'=>e= .returned (.int .i64 p)/\No w.heap.size w w'):=by
 have H:=sh h;have CJ:=sh AU;have pE:=sh qY;clear h AU qY hg;go_enter func234,ntmps234
 go_wp2_with fail
 go_loopw [5,6] (fun i j wr=>∃(a b:Nat),i= .int .i64 a/\j= .int .i64 b/\a<=p/\p<=b/\b<=n/\Hid (No w.heap.size w wr)) (fun i j _=>(intOf j).toNat-(intOf i).toNat)
 case atStart=>exact⟨0,n,rfl,rfl,Nat.zero_le _,hp,AS _,sh (IN _ _)⟩
 case round=>
  obtain⟨a,b,rfl,rfl,ha,hb,Xg,HB⟩:=hrel;by_cases aI:a<b
  ·have z1:decide ((a:Int)<(b:Int))=true:=decide_eq_true (by omega)
   have og:a<=(a+b)/2:=by omega
   have mF:(a+b)/2<b:=by omega
   have nQ:(a+b)/2<n:=by omega
   have hmi:(((a+b)/2:Nat):Int)=((a:Int)+(b:Int))/2:=by omega
   have HC:=sh (H.out ((a+b)/2) wr nQ HB.out);rw[hmi]at HC;have zl:g ((a+b)/2)=false->(a+b)/2<p:=fun hq=>by
    by_cases hh:(a+b)/2<p
    ·exact hh
    ·have:=pE.out ((a+b)/2) (by omega) nQ
     rw[hq]at this;cases this
   have km:g ((a+b)/2)=true->p<=(a+b)/2:=fun hq=>by
    by_cases hh:(a+b)/2<p
    ·have:=CJ.out ((a+b)/2) hh
     rw[hq]at this;cases this
    ·omega
   obtain⟨q,hq⟩:∃q,q=g ((a+b)/2):=⟨_,rfl⟩;rw[<-hq]at HC zl km;clear hq hmi;cases q
   all_goals
    have HU:=sh (show _/\_ from ⟨zl,km⟩);clear zl km;go_wp2_with fail
    (with_reducible refine HC.out.mono ?_)
    rintro e w1 ⟨rfl,ar⟩;have bh:=sh (HB.out.trans (ar.mono HB.out.size));clear ar;go_wp2_with fail
    go_roundw
    case rel=>first
     | exact⟨(a+b)/2+1,b,congrArg (acK .i64) (by omega),rfl,(by have:=HU.out.1 (by first|rfl|trivial);omega),hb,Xg,bh⟩
     | exact⟨a,(a+b)/2,rfl,congrArg (acK .i64) (by omega),ha,(HU.out.2 (by first|rfl|trivial)),by omega,bh⟩
    case measure=>simp[intOf];omega
  ·obtain rfl:a=p:=by omega
   have z1:decide ((a:Int)<(b:Int))=false:=decide_eq_false (by omega);go_wp2_with fail
   go_ret
   exact⟨rfl,HB.out⟩
namespace Nd
theorem sD{l:List Ce}(h:rise l=true):∀(j i:Nat) (hj:j<l.length) (hi:i<j),lt (l[i]'(by omega)).key l[j].key=true:=by
 intro j;induction j with
 | zero=>intro i hj hi;omega
 | succ j ih=>
  intro i hj hi;have h1:=sB h j hj;by_cases e:i=j
  ·subst e;exact h1
  ·exact lt_trans (ih i (by omega) (by omega)) h1
theorem nX{leaf:Bool}{l:List Ce}(h:right leaf l=true):rise l=true:=by
 unfold right at h;simp only[Bool.and_eq_true]at h;exact h.2.2
theorem gj(l:List Ce)(key:ByteArray)(i:Nat)(h:i<spot l key)(hl:i<l.length):lt l[i].key key=true:=by
 unfold spot at h;have:=List.not_of_lt_findIdx h;simpa using this
theorem px(l:List Ce)(key:ByteArray)(hl:spot l key<l.length):lt l[spot l key].key key=false:=by
 have:=List.findIdx_getElem (w:=hl) (p:=fun c:Ce=> !lt c.key key) (xs:=l);cases hh:lt l[spot l key].key key with
 | false=>rfl
 | true=>
  have h2:lt (l[List.findIdx (fun c:Ce=> !lt c.key key) l]'hl).key key=true:=hh;simp[h2]at this
theorem iJ{l:List Ce}(hr:rise l=true)(key:ByteArray)(i:Nat)(h:spot l key<=i)(hl:i<l.length):lt l[i].key key=false:=by
 have h0:=px l key (by omega);by_cases e:i=spot l key
 ·subst e;exact h0
 ·have h1:=sD hr i (spot l key) hl (by omega)
  exact lt_asymm (Tr.Bx h0 h1)
end Nd
theorem Jy{w:AI}{b1 b2 b3:Nat}(leaf:Bool)(l:List Ce)(key:ByteArray)(hr:Nd.right leaf l=true)(hs:Nd.sum leaf l<=488)(h1:Bk w b1 4 #[.bool leaf])(h2:Bk w b2 9 #[.string (Nd.str leaf l)])(h3:Bk w b3 9 #[.string key])(i:Nat)(hi:i<l.length):
  Calls prog 235 #[.int .i64 i,.pointer (some ⟨b1,0,none⟩),.pointer (some ⟨b2,0,none⟩),.pointer (some ⟨b3,0,none⟩)] w (gb (!Nd.lt l[i].key key) w):=by
 have HG:=sh fun(W:AI)=>DS leaf l i W hr hs hi;have c1:=h1.cell 0;have c2:=h2.cell 0;have H3:=sh h3;have l1:=h1.lt;have l2:=h2.lt;have l3:=h3.lt;obtain⟨x,hx⟩:∃x,x=l[i]:=⟨_,rfl⟩;rw[<-hx]at HG |-;obtain⟨s,nS⟩:∃s,s=Nd.str leaf l:=⟨_,rfl⟩;rw[<-nS]at HG c2;obtain⟨q,hq⟩:∃q,q=Nd.lt x.key key:=⟨_,rfl⟩;have y1:Op.bytesLess x.key.toList key.toList=q:=hq.symm;rw[<-hq];clear h1 h2 h3 hx nS hq hr hs hi;go_enter func235,ntmps235
 go_wp2_with fail
 refine(HG.out _).mono ?_;rintro e w1 ⟨rfl,ar⟩;have c3:=(af H3.out ar).cell 0;have l31:=(af H3.out ar).lt;have HB:=sh ar;clear ar;cases q
 all_goals
  go_wp2_with fail
  go_ret
  exact⟨rfl,HB.out.alloc HB.out.size _⟩
namespace Nd
def low (l:List Ce) (key:ByteArray):Nat:=if has l key then spot l key else spot l key-1
def FI (leaf:Bool) (l:List Ce) (key:ByteArray) (c:Ce):Prop:=if leaf then has l key=true->l[spot l key]? =some c else l[low l key]? =some c
end Nd
def FM (leaf:Bool) (l:List Ce) (key:ByteArray) (w:AI) (e:Ending) (w':AI):Prop:=No w.heap.size w w'/\∃(i:Int) (c:Ce),e= .returned (.tuple #[.int .i64 i,.agg #[.string c.key,.string c.val,.int .i64 c.over,.int .i64 c.size,.int .i64 c.child],.bool (Nd.has l key)])/\Hid (Nd.FI leaf l key c)
structure Sk (w:AI) (leaf:Bool) (s key:ByteArray) (W:AI):Prop where
 b1:Bk W w.heap.size 4 #[.bool leaf]
 b2:Bk W (w.heap.size+1) 9 #[.string s]
 b3:Bk W (w.heap.size+1+1) 9 #[.string key]
 b4:Bk W (w.heap.size+1+1+1) 170 #[.string ⟨#[]⟩,.string ⟨#[]⟩,.int .i64 0,.int .i64 0,.int .i64 0]
 old:No w.heap.size w W
theorem Sk.keep{w:AI}{leaf:Bool}{s key:ByteArray}{W W':AI}(h:Sk w leaf s key W)(hb:No W.heap.size W W'):Sk w leaf s key W':=
 ⟨af h.b1 hb,af h.b2 hb,af h.b3 hb,af h.b4 hb,h.old.trans (hb.mono h.old.size)⟩
theorem Sk.mk0(w:AI)(leaf:Bool)(s key:ByteArray):Sk w leaf s key ((((w.alloc (.cells #[.bool leaf] 4)).alloc (.cells #[.string s] 9)).alloc (.cells #[.string key] 9)).alloc (.cells #[.string ⟨#[]⟩,.string ⟨#[]⟩,.int .i64 0,.int .i64 0,.int .i64 0] 170)):=by
 refine⟨((Bk.new w _ _).alloc _).alloc _ |>.alloc _,?_,?_,?_,?_⟩
 ·have:=(((Bk.new (w.alloc (.cells #[.bool leaf] 4)) 9 #[.string s]).alloc (.cells #[.string key] 9)).alloc (.cells #[.string ⟨#[]⟩,.string ⟨#[]⟩,.int .i64 0,.int .i64 0,.int .i64 0] 170))
  simpa using this
 ·have:=((Bk.new ((w.alloc (.cells #[.bool leaf] 4)).alloc (.cells #[.string s] 9)) 9 #[.string key]).alloc (.cells #[.string ⟨#[]⟩,.string ⟨#[]⟩,.int .i64 0,.int .i64 0,.int .i64 0] 170))
  simpa using this
 ·have:=Bk.new (((w.alloc (.cells #[.bool leaf] 4)).alloc (.cells #[.string s] 9)).alloc (.cells #[.string key] 9)) 170 #[.string ⟨#[]⟩,.string ⟨#[]⟩,.int .i64 0,.int .i64 0,.int .i64 0]
  simpa using this
 ·refine((((IN _ w).alloc (AS _) _).alloc ?_ _).alloc ?_ _).alloc ?_ _
  all_goals simp
  all_goals omega
theorem Sk.put{w:AI}{leaf:Bool}{s key:ByteArray}{W:AI}(h:Sk w leaf s key W){m i:Nat}(hm:w.heap.size+1+1+1<m)(u:Value):Sk w leaf s key (W.setCell ⟨m,i,none⟩ u):=
 ⟨h.b1.zf (by show _≠m;omega) u,h.b2.zf (by show _≠m;omega) u,h.b3.zf (by show _≠m;omega) u,h.b4.zf (by show _≠m;omega) u,h.old.setCell (p:=⟨m,i,none⟩) (by show _<=m;omega) u⟩
def World.jU (W:AI) (m:Nat) (c:Ce):AI:=((((W.setCell ⟨m,0,none⟩ (.string c.key)).setCell ⟨m,1,none⟩ (.string c.val)).setCell ⟨m,2,none⟩ (.int .i64 c.over)).setCell ⟨m,3,none⟩ (.int .i64 c.size)).setCell ⟨m,4,none⟩ (.int .i64 c.child)
theorem Sk.jU{w:AI}{leaf:Bool}{s key:ByteArray}{W:AI}(h:Sk w leaf s key W){m:Nat}(hm:w.heap.size+1+1+1<m)(c:Ce):Sk w leaf s key (World.jU W m c):=((((h.put hm _).put hm _).put hm _).put hm _).put hm _
theorem oC{W:AI}{m:Nat}{t:TypeId}{v0 v1 v2 v3 v4:Value}(h:Bk W m t #[v0,v1,v2,v3,v4])(c:Ce):Bk (World.jU W m c) m t #[.string c.key,.string c.val,.int .i64 c.over,.int .i64 c.size,.int .i64 c.child]:=((((h.put 0 _).put 1 _).put 2 _).put 3 _).put 4 _
theorem seekn_any(leaf:Bool)(l:List Ce)(key:ByteArray)(w:AI)(hr:Nd.right leaf l=true)(hs:Nd.sum leaf l<=488)(hz:leaf=false->Nd.has l key=true\/0<Nd.spot l key):
  Calls prog 180 #[.bool leaf,.string (Nd.str leaf l),.string key] w (FM leaf l key w):=by
 have cZ:=Nd.dS leaf l;have hlen:=Nd.sE leaf l;have Qq:=Nd.xy leaf l (by omega);have kM:=Nd.nX hr;have HC:=sh fun(W:AI)=>zO (Nd.str leaf l) l.length W (by omega) Qq (by omega);have HG:=sh fun(i:Nat) (hi:i<l.length) (W:AI)=>DS leaf l i W hr hs hi;have HD:=sh fun(W:AI)=>pW leaf l W hr hs;have HS:=sh fun(W:AI) (b:Nat) (h1:Bk W b 4 #[.bool leaf]) (h2:Bk W (b+1) 9 #[.string (Nd.str leaf l)]) (h3:Bk W (b+1+1) 9 #[.string key])=>
  Fc l.length (by omega) (fun i=>if h:i<l.length then !Nd.lt l[i].key key else true) (fun i j Ki hi=>by
   by_cases hj:j<l.length
   ·simp only[hj,dite_true,show i<l.length by omega]at hi |-
    by_cases e:i=j
    ·subst e;exact hi
    ·have:=Nd.sD kM j i hj (by omega)
     cases hc:Nd.lt l[j].key key with
     | false=>rfl
     | true=>rw[Nd.lt_trans this hc]at hi;cases hi
   ·simp[hj]) 235 #[.pointer (some ⟨b,0,none⟩),.pointer (some ⟨b+1,0,none⟩),.pointer (some ⟨b+1+1,0,none⟩)] W (fun _ _=>by rfl) (fun i W1 hi hb=>by
    have:=Jy leaf l key hr hs (af h1 hb) (af h2 hb) (af h3 hb) i hi;show Calls _ _ _ _ (gb (if h:i<l.length then !Nd.lt l[i].key key else true) W1);rw[dif_pos hi];exact this) (Nd.spot l key) (Nd.hJ l key) (fun i hi=>by
    have:=Nd.gj l key i hi (by have:=Nd.hJ l key;omega);simp only[show i<l.length by(have:=Nd.hJ l key;omega),dite_true,this];rfl) (fun i hi hl=>by
    have:=Nd.iJ kM key i hi hl;simp only[hl,dite_true,this];rfl)
 have hle:=Nd.hJ l key;have HH:=sh (show Nd.has l key=(match l[Nd.spot l key]? with|some c=>c.key.toList==key.toList|none=>false) from rfl);obtain⟨p,hp⟩:∃p,p=Nd.spot l key:=⟨_,rfl⟩;obtain⟨s,nS⟩:∃s,s=Nd.str leaf l:=⟨_,rfl⟩;obtain⟨q,hq⟩:∃q,q=Nd.has l key:=⟨_,rfl⟩;have HW:=sh (show ∀c,Nd.FI leaf l key c↔(if leaf then q=true->l[p]? =some c else l[if q then p else p-1]? =some c) from fun c=>by rw[hq,hp];exact Iff.rfl);unfold FM;rw[<-nS]at HC HG HD HS |-;rw[<-hp]at HS HH hz hle;rw[<-hq]at HH hz |-;have CW:l.length<=243:=by omega
 have HZ:=sh hz;clear nS hp hq cZ hlen Qq hr hs kM hz;go_enter func180,ntmps180
 go_wp2_with fail
 (go_at_call 232)
 refine(HD.out _).mono ?_;rintro e w1 ⟨ar,A1,c1,rfl,-⟩;have HK:=sh ((Sk.mk0 w leaf s key).keep ar);clear ar;obtain⟨K1,K2,K3,K4,-⟩:=HK.out;have c1:=K1.cell 0;have c2:=K2.cell 0;have c3:=K3.cell 0;have l1:=K1.lt;have l2:=K2.lt;have l3:=K3.lt;have l4:=K4.lt;clear K1 K2 K3 K4;go_wp2_with fail
 (go_at_call 233)
 refine(HC.out _).mono ?_;rintro e w2 ⟨rfl,az⟩;have sf:=sh (HK.out.keep az);clear az HK c1 c2 c3 l1 l2 l3 l4;obtain⟨K1,K2,K3,K4,-⟩:=sf.out;have HSC:=sh (HS.out w2 _ K1 K2 K3);clear K1 K2 K3 K4;go_wp2_with fail
 (go_at_call 234)
 refine HSC.out.mono ?_;rintro e w3 ⟨rfl,aQ⟩;have vW:=sh (sf.out.keep aQ);clear aQ sf HSC;obtain⟨K1,K2,K3,K4,-⟩:=vW.out;have c1:=K1.cell 0;have c2:=K2.cell 0;have c3:=K3.cell 0;have l1:=K1.lt;have l2:=K2.lt;have l3:=K3.lt;have l4:=K4.lt;clear K1 K2 K3 K4;by_cases mG:p<l.length
 ·have z1:decide ((p:Int)<(l.length:Int))=true:=decide_eq_true (by omega)
  obtain⟨x,hx⟩:∃x,x=l[p]:=⟨_,rfl⟩;have HGP:=sh (HG.out p mG);rw[<-hx]at HGP;have hq:q=(x.key.toList==key.toList):=by rw[HH.out,aaG mG,<-hx]
  have HX:=sh (show l[p]? =some x by rw[aaG mG,hx]);clear hx;go_wp2_with fail
  (go_at_call 236)
  refine(HGP.out _).mono ?_;rintro e w4 ⟨rfl,b7⟩;obtain⟨-,-,-,-,-,-,j6,WT⟩:=bN b7;obtain⟨u0,u1,u2,u3,u4,v0,v1,v2,v3,v4,ul⟩:=WT.gz;have Po:=sh (vW.out.keep j6);have HC4:=sh WT;have d1:w.heap.size≠w3.heap.size:=by have:=vW.out.b1.lt;omega
  have d2:w.heap.size+1≠w3.heap.size:=by have:=vW.out.b2.lt;omega
  have d3:w.heap.size+1+1≠w3.heap.size:=by have:=vW.out.b3.lt;omega
  have d4:w.heap.size+1+1+1≠w3.heap.size:=by have:=vW.out.b4.lt;omega
  clear b7 j6 WT c1 c2 c3 l1 l2 l3 l4;obtain⟨K1,K2,K3,K4,-⟩:=Po.out;have c1:=K1.cell 0;have c2:=K2.cell 0;have c3:=K3.cell 0;have l1:=K1.lt;have l2:=K2.lt;have l3:=K3.lt;have l4:=K4.lt;clear K1 K2 K3 K4;have HQ:=sh hq;cases q with
  | true=>
   have z2:(x.key.toList==key.toList)=true:=HQ.out.symm;clear hq;cases leaf
   all_goals
    go_wp2_with fail
    obtain⟨w5,oS⟩:∃w5,w5=World.jU w4 w3.heap.size x:=⟨_,rfl⟩
    change Code.wp _ _ _ _ (World.jU w4 w3.heap.size x)
    have sg:=sh (Po.out.jU (by have:=vW.out.b4.lt;omega) x:Sk w _ s key (World.jU w4 w3.heap.size x));have CH:=sh (oC HC4.out x);rw[<-oS]at sg CH |-;obtain⟨x0,x1,x2,x3,x4,y0,y1,y2,y3,y4,x5⟩:=CH.out.gz;obtain⟨r0,r1,r2,r3,r4,s0,s1,s2,s3,s4,r5⟩:=sg.out.b4.gz;clear u0 u1 u2 u3 u4 v0 v1 v2 v3 v4 ul c1 c2 c3 l1 l2 l3 l4 d1 d2 d3 oS
    go_region
    go_wp2_with fail
    refine abT (v:= .tuple #[.int .i64 (p:Int),.agg #[.string x.key,.string x.val,.int .i64 x.over,.int .i64 x.size,.int .i64 x.child],.bool true]) (by simp[acN,results180,go_sem,r0,r1,r2,r3,r4,r5]) rfl ?_;refine⟨?_,_,x,rfl,sh ((HW.out x).2 ?_)⟩
    ·exact(((((sg.out.old.setCell (p:=⟨w.heap.size+1+1+1,0,none⟩) (by simp;omega) _).setCell (p:=⟨w.heap.size+1+1+1,1,none⟩) (by simp;omega) _).setCell (p:=⟨w.heap.size+1+1+1,2,none⟩) (by simp;omega) _).setCell (p:=⟨w.heap.size+1+1+1,3,none⟩) (by simp;omega) _).setCell (p:=⟨w.heap.size+1+1+1,4,none⟩) (by simp;omega) _).drew
    ·first|exact fun _=>HX.out|exact HX.out
  | false=>
   have z2:(x.key.toList==key.toList)=false:=HQ.out.symm;clear hq;cases leaf with
   | true=>
    go_wp2_with fail
    obtain⟨w5,oS⟩:∃w5,w5=World.jU w4 w3.heap.size x:=⟨_,rfl⟩
    change Code.wp _ _ _ _ (World.jU w4 w3.heap.size x)
    have sg:=sh (Po.out.jU (by have:=vW.out.b4.lt;omega) x:Sk w _ s key (World.jU w4 w3.heap.size x));have CH:=sh (oC HC4.out x);rw[<-oS]at sg CH |-;obtain⟨x0,x1,x2,x3,x4,y0,y1,y2,y3,y4,x5⟩:=CH.out.gz;obtain⟨r0,r1,r2,r3,r4,s0,s1,s2,s3,s4,r5⟩:=sg.out.b4.gz;clear u0 u1 u2 u3 u4 v0 v1 v2 v3 v4 ul c1 c2 c3 l1 l2 l3 l4 d1 d2 d3 oS
    go_region
    go_wp2_with fail
    refine abT (v:= .tuple #[.int .i64 (p:Int),.agg #[.string x.key,.string x.val,.int .i64 x.over,.int .i64 x.size,.int .i64 x.child],.bool false]) (by simp[acN,results180,go_sem,r0,r1,r2,r3,r4,r5]) rfl ?_;refine⟨?_,_,x,rfl,sh ((HW.out x).2 ?_)⟩
    ·exact(((((sg.out.old.setCell (p:=⟨w.heap.size+1+1+1,0,none⟩) (by simp;omega) _).setCell (p:=⟨w.heap.size+1+1+1,1,none⟩) (by simp;omega) _).setCell (p:=⟨w.heap.size+1+1+1,2,none⟩) (by simp;omega) _).setCell (p:=⟨w.heap.size+1+1+1,3,none⟩) (by simp;omega) _).setCell (p:=⟨w.heap.size+1+1+1,4,none⟩) (by simp;omega) _).drew
    ·exact fun h=>nomatch h
   | false=>
    have hp0:0<p:=(HZ.out rfl).resolve_left (by first|exact agZ|(intro h;cases h));have My:p-1<l.length:=by omega
    obtain⟨y,hy⟩:∃y,y=l[p-1]:=⟨_,rfl⟩;have KE:=sh (HG.out (p-1) My);have HY:=sh (show l[p-1]? =some y by rw[aaG My,hy]);rw[<-hy,show ((p-1:Nat):Int)=(p:Int)-1 by omega]at KE;clear hy;go_wp2_with fail
    refine(KE.out _).mono ?_;rintro e w6 ⟨rfl,gS⟩;have zc:=sh ((Po.out.jU (by have:=vW.out.b4.lt;omega) x).keep gS);have OI:=sh (af (oC HC4.out x) gS);clear u0 u1 u2 u3 u4 v0 v1 v2 v3 v4 ul c1 c2 c3 l1 l2 l3 l4 gS;obtain⟨u0,u1,u2,u3,u4,v0,v1,v2,v3,v4,ul⟩:=OI.out.gz;have c1:=zc.out.b1.cell 0;have c2:=zc.out.b2.cell 0;have c3:=zc.out.b3.cell 0;have l1:=zc.out.b1.lt;have l2:=zc.out.b2.lt;have l3:=zc.out.b3.lt;have l4:=zc.out.b4.lt;go_wp2_with fail
    obtain⟨w5,oS⟩:∃w5,w5=World.jU w6 w3.heap.size y:=⟨_,rfl⟩
    change Code.wp _ _ _ _ (World.jU w6 w3.heap.size y)
    have sg:=sh (zc.out.jU (by have:=vW.out.b4.lt;omega) y:Sk w _ s key (World.jU w6 w3.heap.size y));have CH:=sh (oC OI.out y);rw[<-oS]at sg CH |-;obtain⟨x0,x1,x2,x3,x4,y0,y1,y2,y3,y4,x5⟩:=CH.out.gz;obtain⟨r0,r1,r2,r3,r4,s0,s1,s2,s3,s4,r5⟩:=sg.out.b4.gz;clear u0 u1 u2 u3 u4 v0 v1 v2 v3 v4 ul c1 c2 c3 l1 l2 l3 l4 d1 d2 d3 oS
    go_region
    go_wp2_with fail
    refine abT (v:= .tuple #[.int .i64 ((p:Int)-1),.agg #[.string y.key,.string y.val,.int .i64 y.over,.int .i64 y.size,.int .i64 y.child],.bool false]) (by simp[acN,results180,go_sem,r0,r1,r2,r3,r4,r5]) rfl ?_;refine⟨?_,_,y,rfl,sh ((HW.out y).2 ?_)⟩
    ·exact(((((sg.out.old.setCell (p:=⟨w.heap.size+1+1+1,0,none⟩) (by simp;omega) _).setCell (p:=⟨w.heap.size+1+1+1,1,none⟩) (by simp;omega) _).setCell (p:=⟨w.heap.size+1+1+1,2,none⟩) (by simp;omega) _).setCell (p:=⟨w.heap.size+1+1+1,3,none⟩) (by simp;omega) _).setCell (p:=⟨w.heap.size+1+1+1,4,none⟩) (by simp;omega) _).drew
    ·exact HY.out
 ·have z1:decide ((p:Int)<(l.length:Int))=false:=decide_eq_false (by omega)
  have hq:q=false:=by rw[HH.out,List.getElem?_eq_none (by omega)]
  subst hq;cases leaf with
  | true=>
    go_wp2_with fail
    obtain⟨w5,oS⟩:∃w5,w5=w3.alloc (.cells #[.string ⟨#[]⟩,.string ⟨#[]⟩,.int .i64 0,.int .i64 0,.int .i64 0] 170):=⟨_,rfl⟩;have sg:=sh (vW.out.keep ((IN _ w3).alloc (AS _) (.cells #[.string ⟨#[]⟩,.string ⟨#[]⟩,.int .i64 0,.int .i64 0,.int .i64 0] 170)));have CH:=sh (Bk.new w3 170 #[.string ⟨#[]⟩,.string ⟨#[]⟩,.int .i64 0,.int .i64 0,.int .i64 0]);have d4:w.heap.size+1+1+1≠w3.heap.size:=by have:=vW.out.b4.lt;omega
    rw[<-oS]at sg CH |-;obtain⟨x0,x1,x2,x3,x4,y0,y1,y2,y3,y4,x5⟩:=CH.out.gz;obtain⟨r0,r1,r2,r3,r4,s0,s1,s2,s3,s4,r5⟩:=sg.out.b4.gz;clear c1 c2 c3 l1 l2 l3 l4 oS
    go_region
    go_wp2_with fail
    refine abT (v:= .tuple #[.int .i64 (p:Int),.agg #[.string ⟨#[]⟩,.string ⟨#[]⟩,.int .i64 0,.int .i64 0,.int .i64 0],.bool false]) (by simp[acN,results180,go_sem,r0,r1,r2,r3,r4,r5]) rfl ?_;refine⟨?_,_,Ce.zero,rfl,sh ((HW.out Ce.zero).2 (fun h=>nomatch h))⟩;exact(((((sg.out.old.setCell (p:=⟨w.heap.size+1+1+1,0,none⟩) (by simp;omega) _).setCell (p:=⟨w.heap.size+1+1+1,1,none⟩) (by simp;omega) _).setCell (p:=⟨w.heap.size+1+1+1,2,none⟩) (by simp;omega) _).setCell (p:=⟨w.heap.size+1+1+1,3,none⟩) (by simp;omega) _).setCell (p:=⟨w.heap.size+1+1+1,4,none⟩) (by simp;omega) _).drew
  | false=>
    have hp0:0<p:=(HZ.out rfl).resolve_left (by first|exact agZ|(intro h;cases h));have My:p-1<l.length:=by omega
    obtain⟨y,hy⟩:∃y,y=l[p-1]:=⟨_,rfl⟩;have KE:=sh (HG.out (p-1) My);have HY:=sh (show l[p-1]? =some y by rw[aaG My,hy]);rw[<-hy,show ((p-1:Nat):Int)=(p:Int)-1 by omega]at KE;clear hy;go_wp2_with fail
    refine(KE.out _).mono ?_;rintro e w6 ⟨rfl,gS⟩;obtain⟨-,-,-,-,-,-,hn6,WT⟩:=bN gS;have zc:=sh (vW.out.keep hn6);have OI:=sh WT;have d1:w.heap.size≠w3.heap.size:=by have:=vW.out.b1.lt;omega
    have d2:w.heap.size+1≠w3.heap.size:=by have:=vW.out.b2.lt;omega
    have d3:w.heap.size+1+1≠w3.heap.size:=by have:=vW.out.b3.lt;omega
    have d4:w.heap.size+1+1+1≠w3.heap.size:=by have:=vW.out.b4.lt;omega
    clear c1 c2 c3 l1 l2 l3 l4 gS hn6 WT;obtain⟨u0,u1,u2,u3,u4,v0,v1,v2,v3,v4,ul⟩:=OI.out.gz;have c1:=zc.out.b1.cell 0;have c2:=zc.out.b2.cell 0;have c3:=zc.out.b3.cell 0;have l1:=zc.out.b1.lt;have l2:=zc.out.b2.lt;have l3:=zc.out.b3.lt;have l4:=zc.out.b4.lt;go_wp2_with fail
    obtain⟨w5,oS⟩:∃w5,w5=World.jU w6 w3.heap.size y:=⟨_,rfl⟩
    change Code.wp _ _ _ _ (World.jU w6 w3.heap.size y)
    have sg:=sh (zc.out.jU (by have:=vW.out.b4.lt;omega) y:Sk w _ s key (World.jU w6 w3.heap.size y));have CH:=sh (oC OI.out y);rw[<-oS]at sg CH |-;obtain⟨x0,x1,x2,x3,x4,y0,y1,y2,y3,y4,x5⟩:=CH.out.gz;obtain⟨r0,r1,r2,r3,r4,s0,s1,s2,s3,s4,r5⟩:=sg.out.b4.gz;clear u0 u1 u2 u3 u4 v0 v1 v2 v3 v4 ul c1 c2 c3 l1 l2 l3 l4 d1 d2 d3 oS
    go_region
    go_wp2_with fail
    refine abT (v:= .tuple #[.int .i64 ((p:Int)-1),.agg #[.string y.key,.string y.val,.int .i64 y.over,.int .i64 y.size,.int .i64 y.child],.bool false]) (by simp[acN,results180,go_sem,r0,r1,r2,r3,r4,r5]) rfl ?_;refine⟨?_,_,y,rfl,sh ((HW.out y).2 ?_)⟩
    ·exact(((((sg.out.old.setCell (p:=⟨w.heap.size+1+1+1,0,none⟩) (by simp;omega) _).setCell (p:=⟨w.heap.size+1+1+1,1,none⟩) (by simp;omega) _).setCell (p:=⟨w.heap.size+1+1+1,2,none⟩) (by simp;omega) _).setCell (p:=⟨w.heap.size+1+1+1,3,none⟩) (by simp;omega) _).setCell (p:=⟨w.heap.size+1+1+1,4,none⟩) (by simp;omega) _).drew
    ·exact HY.out
end Go.Proofs.YtjbcbnemdhbhbaaGreatDoor
