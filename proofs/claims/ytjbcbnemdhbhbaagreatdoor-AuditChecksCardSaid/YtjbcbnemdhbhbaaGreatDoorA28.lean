import Derived.Test.YtjbcbnemdhbhbaaGreatDoorA4
import Derived.Test.YtjbcbnemdhbhbaaGreatDoorA6
set_option maxRecDepth 100000
set_option linter.unusedVariables false
set_option linter.unusedSimpArgs false
set_option maxHeartbeats 40000000
open Bool renaming false_ne_true→ahi
open Go renaming World→AI,bodyPost_ret→abT,results→acJ
open Go.ByteArray renaming toList_eq→abV
open Go.Lib renaming hid→sh
open Go.RowKit renaming Below→IT
open Go.RowKit.Below renaming refl→BY
open Go.Value renaming int→acs
open List renaming getElem?_eq_getElem→aaG,getElem_map→acn,length_map→IS,mem_flatMap→abr,mem_iff_getElem→adp,mem_map_of_mem→abO
open Nat renaming le_refl→AS
namespace Go.Proofs.YtjbcbnemdhbhbaaGreatDoor
open Go.Proofs.Tryz
open Go.RowKit
theorem FC(n:Nat)(hn:n<=1000)(g:Nat->Bool)(hg:∀i j,i<=j->g i=true->g j=true)(fc:Nat)(dx:Array Value)(w:AI)(ZH:∀args W,Sem.run prog (callFunc fc args) W= .ok (.enter fc args) W)
  (h:∀(i:Nat) (W:AI),i<n->IT w.heap.size w W->Calls prog fc (#[.int .i64 i]++dx) W (gl (g i) W)) (p:Nat) (hp:p<=n) (zf:∀i,i<p->g i=false) (ru:∀i,p<=i->i<n->g i=true):
  Calls prog 234 #[.int .i64 n,.func (.func fc) #[] dx] w (fun e w'=>e= .returned (.int .i64 p)/\IT w.heap.size w w'):=by
 have H:=sh h;have yA:=sh zf;have pL:=sh ru;clear h zf ru hg;go_enter func234,ntmps234
 go_wp2_with fail
 go_loopw [5,6] (fun i j wr=>∃(a b:Nat),i= .int .i64 a/\j= .int .i64 b/\a<=p/\p<=b/\b<=n/\Hid (IT w.heap.size w wr)) (fun i j _=>(intOf j).toNat-(intOf i).toNat)
 case atStart=>exact⟨0,n,rfl,rfl,Nat.zero_le _,hp,AS _,sh (BY _ _)⟩
 case round=>
  obtain⟨a,b,rfl,rfl,ha,hb,QI,HB⟩:=hrel;by_cases aH:a<b
  ·have z1:decide ((a:Int)<(b:Int))=true:=decide_eq_true (by omega)
   have mM:a<=(a+b)/2:=by omega
   have jf:(a+b)/2<b:=by omega
   have om:(a+b)/2<n:=by omega
   have hmi:(((a+b)/2:Nat):Int)=((a:Int)+(b:Int))/2:=by omega
   have HC:=sh (H.out ((a+b)/2) wr om HB.out);rw[hmi]at HC;have zW:g ((a+b)/2)=false->(a+b)/2<p:=fun hq=>by
    by_cases hh:(a+b)/2<p
    ·exact hh
    ·have:=pL.out ((a+b)/2) (by omega) om
     rw[hq]at this;cases this
   have kx:g ((a+b)/2)=true->p<=(a+b)/2:=fun hq=>by
    by_cases hh:(a+b)/2<p
    ·have:=yA.out ((a+b)/2) hh
     rw[hq]at this;cases this
    ·omega
   obtain⟨q,hq⟩:∃q,q=g ((a+b)/2):=⟨_,rfl⟩;rw[<-hq]at HC zW kx;clear hq hmi;cases q
   all_goals
    have HU:=sh (show _/\_ from ⟨zW,kx⟩);clear zW kx;go_wp2_with fail
    (with_reducible refine HC.out.mono ?_)
    rintro e w1 ⟨rfl,ar⟩;have bh:=sh (HB.out.trans (ar.mono HB.out.size));clear ar;go_wp2_with fail
    go_roundw
    case rel=>first
     | exact⟨(a+b)/2+1,b,congrArg (acs .i64) (by omega),rfl,(by have:=HU.out.1 (by first|rfl|trivial);omega),hb,QI,bh⟩
     | exact⟨a,(a+b)/2,rfl,congrArg (acs .i64) (by omega),ha,(HU.out.2 (by first|rfl|trivial)),by omega,bh⟩
    case measure=>simp[intOf];omega
  ·obtain rfl:a=p:=by omega
   have z1:decide ((a:Int)<(b:Int))=false:=decide_eq_false (by omega);go_wp2_with fail
   go_ret
   exact⟨rfl,HB.out⟩
namespace Nd
theorem td{l:List Ce}(h:rise l=true):∀(j i:Nat) (hj:j<l.length) (hi:i<j),lt (l[i]'(by omega)).key l[j].key=true:=by
 intro j;induction j with
 | zero=>intro i hj hi;omega
 | succ j ih=>
  intro i hj hi;have h1:=tc h j hj;by_cases e:i=j
  ·subst e;exact h1
  ·exact lt_trans (ih i (by omega) (by omega)) h1
theorem oy{leaf:Bool}{l:List Ce}(h:right leaf l=true):rise l=true:=by
 unfold right at h;simp only[Bool.and_eq_true]at h;exact h.2.2
theorem gu(l:List Ce)(key:ByteArray)(i:Nat)(h:i<spot l key)(hl:i<l.length):lt l[i].key key=true:=by
 unfold spot at h;have:=List.not_of_lt_findIdx h;simpa using this
theorem pD(l:List Ce)(key:ByteArray)(hl:spot l key<l.length):lt l[spot l key].key key=false:=by
 have:=List.findIdx_getElem (w:=hl) (p:=fun c:Ce=> !lt c.key key) (xs:=l);cases hh:lt l[spot l key].key key with
 | false=>rfl
 | true=>
  have h2:lt (l[List.findIdx (fun c:Ce=> !lt c.key key) l]'hl).key key=true:=hh;simp[h2]at this
theorem iN{l:List Ce}(hr:rise l=true)(key:ByteArray)(i:Nat)(h:spot l key<=i)(hl:i<l.length):lt l[i].key key=false:=by
 have h0:=pD l key (by omega);by_cases e:i=spot l key
 ·subst e;exact h0
 ·have h1:=td hr i (spot l key) hl (by omega)
  exact lt_asymm (Tr.B3 h0 h1)
end Nd
theorem JO{w:AI}{b1 b2 b3:Nat}(leaf:Bool)(l:List Ce)(key:ByteArray)(hr:Nd.right leaf l=true)(hs:Nd.sum leaf l<=488)(h1:Bk w b1 4 #[.bool leaf])(h2:Bk w b2 9 #[.string (Nd.str leaf l)])(h3:Bk w b3 9 #[.string key])(i:Nat)(hi:i<l.length):
  Calls prog 235 #[.int .i64 i,.pointer (some ⟨b1,0,none⟩),.pointer (some ⟨b2,0,none⟩),.pointer (some ⟨b3,0,none⟩)] w (gl (!Nd.lt l[i].key key) w):=by
 have HG:=sh fun(W:AI)=>Eb leaf l i W hr hs hi;have c1:=h1.cell 0;have c2:=h2.cell 0;have H3:=sh h3;have l1:=h1.lt;have l2:=h2.lt;have l3:=h3.lt;obtain⟨x,hx⟩:∃x,x=l[i]:=⟨_,rfl⟩;rw[<-hx]at HG |-;obtain⟨s,nu⟩:∃s,s=Nd.str leaf l:=⟨_,rfl⟩;rw[<-nu]at HG c2;obtain⟨q,hq⟩:∃q,q=Nd.lt x.key key:=⟨_,rfl⟩;have y1:Op.bytesLess x.key.toList key.toList=q:=hq.symm;rw[<-hq];clear h1 h2 h3 hx nu hq hr hs hi;go_enter func235,ntmps235
 go_wp2_with fail
 refine(HG.out _).mono ?_;rintro e w1 ⟨rfl,ar⟩;have c3:=(ae H3.out ar).cell 0;have l31:=(ae H3.out ar).lt;have HB:=sh ar;clear ar;cases q
 all_goals
  go_wp2_with fail
  go_ret
  exact⟨rfl,HB.out.alloc HB.out.size _⟩
namespace Nd
def low (l:List Ce) (key:ByteArray):Nat:=if has l key then spot l key else spot l key-1
def F6 (leaf:Bool) (l:List Ce) (key:ByteArray) (c:Ce):Prop:=if leaf then has l key=true->l[spot l key]? =some c else l[low l key]? =some c
end Nd
def F9 (leaf:Bool) (l:List Ce) (key:ByteArray) (w:AI) (e:Ending) (w':AI):Prop:=IT w.heap.size w w'/\∃(i:Int) (c:Ce),e= .returned (.tuple #[.int .i64 i,.agg #[.string c.key,.string c.val,.int .i64 c.over,.int .i64 c.size,.int .i64 c.child],.bool (Nd.has l key)])/\Hid (Nd.F6 leaf l key c)
structure Sk (w:AI) (leaf:Bool) (s key:ByteArray) (W:AI):Prop where
 b1:Bk W w.heap.size 4 #[.bool leaf]
 b2:Bk W (w.heap.size+1) 9 #[.string s]
 b3:Bk W (w.heap.size+1+1) 9 #[.string key]
 b4:Bk W (w.heap.size+1+1+1) 170 #[.string ⟨#[]⟩,.string ⟨#[]⟩,.int .i64 0,.int .i64 0,.int .i64 0]
 old:IT w.heap.size w W
theorem Sk.keep{w:AI}{leaf:Bool}{s key:ByteArray}{W W':AI}(h:Sk w leaf s key W)(hb:IT W.heap.size W W'):Sk w leaf s key W':=
 ⟨ae h.b1 hb,ae h.b2 hb,ae h.b3 hb,ae h.b4 hb,h.old.trans (hb.mono h.old.size)⟩
theorem Sk.mk0(w:AI)(leaf:Bool)(s key:ByteArray):Sk w leaf s key ((((w.alloc (.cells #[.bool leaf] 4)).alloc (.cells #[.string s] 9)).alloc (.cells #[.string key] 9)).alloc (.cells #[.string ⟨#[]⟩,.string ⟨#[]⟩,.int .i64 0,.int .i64 0,.int .i64 0] 170)):=by
 refine⟨((Bk.new w _ _).alloc _).alloc _ |>.alloc _,?_,?_,?_,?_⟩
 ·have:=(((Bk.new (w.alloc (.cells #[.bool leaf] 4)) 9 #[.string s]).alloc (.cells #[.string key] 9)).alloc (.cells #[.string ⟨#[]⟩,.string ⟨#[]⟩,.int .i64 0,.int .i64 0,.int .i64 0] 170))
  simpa using this
 ·have:=((Bk.new ((w.alloc (.cells #[.bool leaf] 4)).alloc (.cells #[.string s] 9)) 9 #[.string key]).alloc (.cells #[.string ⟨#[]⟩,.string ⟨#[]⟩,.int .i64 0,.int .i64 0,.int .i64 0] 170))
  simpa using this
 ·have:=Bk.new (((w.alloc (.cells #[.bool leaf] 4)).alloc (.cells #[.string s] 9)).alloc (.cells #[.string key] 9)) 170 #[.string ⟨#[]⟩,.string ⟨#[]⟩,.int .i64 0,.int .i64 0,.int .i64 0]
  simpa using this
 ·refine((((BY _ w).alloc (AS _) _).alloc ?_ _).alloc ?_ _).alloc ?_ _
  all_goals simp
  all_goals omega
theorem Sk.put{w:AI}{leaf:Bool}{s key:ByteArray}{W:AI}(h:Sk w leaf s key W){m i:Nat}(hm:w.heap.size+1+1+1<m)(u:Value):Sk w leaf s key (W.setCell ⟨m,i,none⟩ u):=
 ⟨h.b1.vV (by show _≠m;omega) u,h.b2.vV (by show _≠m;omega) u,h.b3.vV (by show _≠m;omega) u,h.b4.vV (by show _≠m;omega) u,h.old.setCell (p:=⟨m,i,none⟩) (by show _<=m;omega) u⟩
def World.j9 (W:AI) (m:Nat) (c:Ce):AI:=((((W.setCell ⟨m,0,none⟩ (.string c.key)).setCell ⟨m,1,none⟩ (.string c.val)).setCell ⟨m,2,none⟩ (.int .i64 c.over)).setCell ⟨m,3,none⟩ (.int .i64 c.size)).setCell ⟨m,4,none⟩ (.int .i64 c.child)
theorem Sk.j9{w:AI}{leaf:Bool}{s key:ByteArray}{W:AI}(h:Sk w leaf s key W){m:Nat}(hm:w.heap.size+1+1+1<m)(c:Ce):Sk w leaf s key (World.j9 W m c):=((((h.put hm _).put hm _).put hm _).put hm _).put hm _
theorem oM{W:AI}{m:Nat}{t:TypeId}{v0 v1 v2 v3 v4:Value}(h:Bk W m t #[v0,v1,v2,v3,v4])(c:Ce):Bk (World.j9 W m c) m t #[.string c.key,.string c.val,.int .i64 c.over,.int .i64 c.size,.int .i64 c.child]:=((((h.put 0 _).put 1 _).put 2 _).put 3 _).put 4 _
theorem seekn_any(leaf:Bool)(l:List Ce)(key:ByteArray)(w:AI)(hr:Nd.right leaf l=true)(hs:Nd.sum leaf l<=488)(hz:leaf=false->Nd.has l key=true\/0<Nd.spot l key):
  Calls prog 180 #[.bool leaf,.string (Nd.str leaf l),.string key] w (F9 leaf l key w):=by
 have cZ:=Nd.dS leaf l;have hlen:=Nd.tf leaf l;have QL:=Nd.yk leaf l (by omega);have kM:=Nd.oy hr;have HC:=sh fun(W:AI)=>AE (Nd.str leaf l) l.length W (by omega) QL (by omega);have HG:=sh fun(i:Nat) (hi:i<l.length) (W:AI)=>Eb leaf l i W hr hs hi;have HD:=sh fun(W:AI)=>qh leaf l W hr hs;have HS:=sh fun(W:AI) (b:Nat) (h1:Bk W b 4 #[.bool leaf]) (h2:Bk W (b+1) 9 #[.string (Nd.str leaf l)]) (h3:Bk W (b+1+1) 9 #[.string key])=>
  FC l.length (by omega) (fun i=>if h:i<l.length then !Nd.lt l[i].key key else true) (fun i j KA hi=>by
   by_cases hj:j<l.length
   ·simp only[hj,dite_true,show i<l.length by omega]at hi |-
    by_cases e:i=j
    ·subst e;exact hi
    ·have:=Nd.td kM j i hj (by omega)
     cases hc:Nd.lt l[j].key key with
     | false=>rfl
     | true=>rw[Nd.lt_trans this hc]at hi;cases hi
   ·simp[hj]) 235 #[.pointer (some ⟨b,0,none⟩),.pointer (some ⟨b+1,0,none⟩),.pointer (some ⟨b+1+1,0,none⟩)] W (fun _ _=>by rfl) (fun i W1 hi hb=>by
    have:=JO leaf l key hr hs (ae h1 hb) (ae h2 hb) (ae h3 hb) i hi;show Calls _ _ _ _ (gl (if h:i<l.length then !Nd.lt l[i].key key else true) W1);rw[dif_pos hi];exact this) (Nd.spot l key) (Nd.ic l key) (fun i hi=>by
    have:=Nd.gu l key i hi (by have:=Nd.ic l key;omega);simp only[show i<l.length by(have:=Nd.ic l key;omega),dite_true,this];rfl) (fun i hi hl=>by
    have:=Nd.iN kM key i hi hl;simp only[hl,dite_true,this];rfl)
 have hle:=Nd.ic l key;have HH:=sh (show Nd.has l key=(match l[Nd.spot l key]? with|some c=>c.key.toList==key.toList|none=>false) from rfl);obtain⟨p,hp⟩:∃p,p=Nd.spot l key:=⟨_,rfl⟩;obtain⟨s,nu⟩:∃s,s=Nd.str leaf l:=⟨_,rfl⟩;obtain⟨q,hq⟩:∃q,q=Nd.has l key:=⟨_,rfl⟩;have HW:=sh (show ∀c,Nd.F6 leaf l key c↔(if leaf then q=true->l[p]? =some c else l[if q then p else p-1]? =some c) from fun c=>by rw[hq,hp];exact Iff.rfl);unfold F9;rw[<-nu]at HC HG HD HS |-;rw[<-hp]at HS HH hz hle;rw[<-hq]at HH hz |-;have De:l.length<=243:=by omega
 have HZ:=sh hz;clear nu hp hq cZ hlen QL hr hs kM hz;go_enter func180,ntmps180
 go_wp2_with fail
 (go_at_call 232)
 refine(HD.out _).mono ?_;rintro e w1 ⟨ar,A1,c1,rfl,-⟩;have HK:=sh ((Sk.mk0 w leaf s key).keep ar);clear ar;obtain⟨K1,K2,K3,K4,-⟩:=HK.out;have c1:=K1.cell 0;have c2:=K2.cell 0;have c3:=K3.cell 0;have l1:=K1.lt;have l2:=K2.lt;have l3:=K3.lt;have l4:=K4.lt;clear K1 K2 K3 K4;go_wp2_with fail
 (go_at_call 233)
 refine(HC.out _).mono ?_;rintro e w2 ⟨rfl,aC⟩;have wX:=sh (HK.out.keep aC);clear aC HK c1 c2 c3 l1 l2 l3 l4;obtain⟨K1,K2,K3,K4,-⟩:=wX.out;have HSC:=sh (HS.out w2 _ K1 K2 K3);clear K1 K2 K3 K4;go_wp2_with fail
 (go_at_call 234)
 refine HSC.out.mono ?_;rintro e w3 ⟨rfl,aN⟩;have wY:=sh (wX.out.keep aN);clear aN wX HSC;obtain⟨K1,K2,K3,K4,-⟩:=wY.out;have c1:=K1.cell 0;have c2:=K2.cell 0;have c3:=K3.cell 0;have l1:=K1.lt;have l2:=K2.lt;have l3:=K3.lt;have l4:=K4.lt;clear K1 K2 K3 K4;by_cases iS:p<l.length
 ·have z1:decide ((p:Int)<(l.length:Int))=true:=decide_eq_true (by omega)
  obtain⟨x,hx⟩:∃x,x=l[p]:=⟨_,rfl⟩;have HGP:=sh (HG.out p iS);rw[<-hx]at HGP;have hq:q=(x.key.toList==key.toList):=by rw[HH.out,aaG iS,<-hx]
  have HX:=sh (show l[p]? =some x by rw[aaG iS,hx]);clear hx;go_wp2_with fail
  (go_at_call 236)
  refine(HGP.out _).mono ?_;rintro e w4 ⟨rfl,bT⟩;obtain⟨-,-,-,-,-,-,kc,WZ⟩:=bN bT;obtain⟨u0,u1,u2,u3,u4,v0,v1,v2,v3,v4,ul⟩:=WZ.gG;have PO:=sh (wY.out.keep kc);have XN:=sh WZ;have d1:w.heap.size≠w3.heap.size:=by have:=wY.out.b1.lt;omega
  have d2:w.heap.size+1≠w3.heap.size:=by have:=wY.out.b2.lt;omega
  have d3:w.heap.size+1+1≠w3.heap.size:=by have:=wY.out.b3.lt;omega
  have d4:w.heap.size+1+1+1≠w3.heap.size:=by have:=wY.out.b4.lt;omega
  clear bT kc WZ c1 c2 c3 l1 l2 l3 l4;obtain⟨K1,K2,K3,K4,-⟩:=PO.out;have c1:=K1.cell 0;have c2:=K2.cell 0;have c3:=K3.cell 0;have l1:=K1.lt;have l2:=K2.lt;have l3:=K3.lt;have l4:=K4.lt;clear K1 K2 K3 K4;have HQ:=sh hq;cases q with
  | true=>
   have z2:(x.key.toList==key.toList)=true:=HQ.out.symm;clear hq;cases leaf
   all_goals
    go_wp2_with fail
    obtain⟨w5,o6⟩:∃w5,w5=World.j9 w4 w3.heap.size x:=⟨_,rfl⟩
    change Code.wp _ _ _ _ (World.j9 w4 w3.heap.size x)
    have sH:=sh (PO.out.j9 (by have:=wY.out.b4.lt;omega) x:Sk w _ s key (World.j9 w4 w3.heap.size x));have C6:=sh (oM XN.out x);rw[<-o6]at sH C6 |-;obtain⟨x0,x1,x2,x3,x4,y0,y1,y2,y3,y4,x5⟩:=C6.out.gG;obtain⟨r0,r1,r2,r3,r4,s0,s1,s2,s3,s4,r5⟩:=sH.out.b4.gG;clear u0 u1 u2 u3 u4 v0 v1 v2 v3 v4 ul c1 c2 c3 l1 l2 l3 l4 d1 d2 d3 o6
    go_region
    go_wp2_with fail
    refine abT (v:= .tuple #[.int .i64 (p:Int),.agg #[.string x.key,.string x.val,.int .i64 x.over,.int .i64 x.size,.int .i64 x.child],.bool true]) (by simp[acJ,results180,go_sem,r0,r1,r2,r3,r4,r5]) rfl ?_;refine⟨?_,_,x,rfl,sh ((HW.out x).2 ?_)⟩
    ·exact(((((sH.out.old.setCell (p:=⟨w.heap.size+1+1+1,0,none⟩) (by simp;omega) _).setCell (p:=⟨w.heap.size+1+1+1,1,none⟩) (by simp;omega) _).setCell (p:=⟨w.heap.size+1+1+1,2,none⟩) (by simp;omega) _).setCell (p:=⟨w.heap.size+1+1+1,3,none⟩) (by simp;omega) _).setCell (p:=⟨w.heap.size+1+1+1,4,none⟩) (by simp;omega) _).drew
    ·first|exact fun _=>HX.out|exact HX.out
  | false=>
   have z2:(x.key.toList==key.toList)=false:=HQ.out.symm;clear hq;cases leaf with
   | true=>
    go_wp2_with fail
    obtain⟨w5,o6⟩:∃w5,w5=World.j9 w4 w3.heap.size x:=⟨_,rfl⟩
    change Code.wp _ _ _ _ (World.j9 w4 w3.heap.size x)
    have sH:=sh (PO.out.j9 (by have:=wY.out.b4.lt;omega) x:Sk w _ s key (World.j9 w4 w3.heap.size x));have C6:=sh (oM XN.out x);rw[<-o6]at sH C6 |-;obtain⟨x0,x1,x2,x3,x4,y0,y1,y2,y3,y4,x5⟩:=C6.out.gG;obtain⟨r0,r1,r2,r3,r4,s0,s1,s2,s3,s4,r5⟩:=sH.out.b4.gG;clear u0 u1 u2 u3 u4 v0 v1 v2 v3 v4 ul c1 c2 c3 l1 l2 l3 l4 d1 d2 d3 o6
    go_region
    go_wp2_with fail
    refine abT (v:= .tuple #[.int .i64 (p:Int),.agg #[.string x.key,.string x.val,.int .i64 x.over,.int .i64 x.size,.int .i64 x.child],.bool false]) (by simp[acJ,results180,go_sem,r0,r1,r2,r3,r4,r5]) rfl ?_;refine⟨?_,_,x,rfl,sh ((HW.out x).2 ?_)⟩
    ·exact(((((sH.out.old.setCell (p:=⟨w.heap.size+1+1+1,0,none⟩) (by simp;omega) _).setCell (p:=⟨w.heap.size+1+1+1,1,none⟩) (by simp;omega) _).setCell (p:=⟨w.heap.size+1+1+1,2,none⟩) (by simp;omega) _).setCell (p:=⟨w.heap.size+1+1+1,3,none⟩) (by simp;omega) _).setCell (p:=⟨w.heap.size+1+1+1,4,none⟩) (by simp;omega) _).drew
    ·exact fun h=>nomatch h
   | false=>
    have hp0:0<p:=(HZ.out rfl).resolve_left (by first|exact ahi|(intro h;cases h));have MP:p-1<l.length:=by omega
    obtain⟨y,hy⟩:∃y,y=l[p-1]:=⟨_,rfl⟩;have KO:=sh (HG.out (p-1) MP);have HY:=sh (show l[p-1]? =some y by rw[aaG MP,hy]);rw[<-hy,show ((p-1:Nat):Int)=(p:Int)-1 by omega]at KO;clear hy;go_wp2_with fail
    refine(KO.out _).mono ?_;rintro e w6 ⟨rfl,ga⟩;have zJ:=sh ((PO.out.j9 (by have:=wY.out.b4.lt;omega) x).keep ga);have OS:=sh (ae (oM XN.out x) ga);clear u0 u1 u2 u3 u4 v0 v1 v2 v3 v4 ul c1 c2 c3 l1 l2 l3 l4 ga;obtain⟨u0,u1,u2,u3,u4,v0,v1,v2,v3,v4,ul⟩:=OS.out.gG;have c1:=zJ.out.b1.cell 0;have c2:=zJ.out.b2.cell 0;have c3:=zJ.out.b3.cell 0;have l1:=zJ.out.b1.lt;have l2:=zJ.out.b2.lt;have l3:=zJ.out.b3.lt;have l4:=zJ.out.b4.lt;go_wp2_with fail
    obtain⟨w5,o6⟩:∃w5,w5=World.j9 w6 w3.heap.size y:=⟨_,rfl⟩
    change Code.wp _ _ _ _ (World.j9 w6 w3.heap.size y)
    have sH:=sh (zJ.out.j9 (by have:=wY.out.b4.lt;omega) y:Sk w _ s key (World.j9 w6 w3.heap.size y));have C6:=sh (oM OS.out y);rw[<-o6]at sH C6 |-;obtain⟨x0,x1,x2,x3,x4,y0,y1,y2,y3,y4,x5⟩:=C6.out.gG;obtain⟨r0,r1,r2,r3,r4,s0,s1,s2,s3,s4,r5⟩:=sH.out.b4.gG;clear u0 u1 u2 u3 u4 v0 v1 v2 v3 v4 ul c1 c2 c3 l1 l2 l3 l4 d1 d2 d3 o6
    go_region
    go_wp2_with fail
    refine abT (v:= .tuple #[.int .i64 ((p:Int)-1),.agg #[.string y.key,.string y.val,.int .i64 y.over,.int .i64 y.size,.int .i64 y.child],.bool false]) (by simp[acJ,results180,go_sem,r0,r1,r2,r3,r4,r5]) rfl ?_;refine⟨?_,_,y,rfl,sh ((HW.out y).2 ?_)⟩
    ·exact(((((sH.out.old.setCell (p:=⟨w.heap.size+1+1+1,0,none⟩) (by simp;omega) _).setCell (p:=⟨w.heap.size+1+1+1,1,none⟩) (by simp;omega) _).setCell (p:=⟨w.heap.size+1+1+1,2,none⟩) (by simp;omega) _).setCell (p:=⟨w.heap.size+1+1+1,3,none⟩) (by simp;omega) _).setCell (p:=⟨w.heap.size+1+1+1,4,none⟩) (by simp;omega) _).drew
    ·exact HY.out
 ·have z1:decide ((p:Int)<(l.length:Int))=false:=decide_eq_false (by omega)
  have hq:q=false:=by rw[HH.out,List.getElem?_eq_none (by omega)]
  subst hq;cases leaf with
  | true=>
    go_wp2_with fail
    obtain⟨w5,o6⟩:∃w5,w5=w3.alloc (.cells #[.string ⟨#[]⟩,.string ⟨#[]⟩,.int .i64 0,.int .i64 0,.int .i64 0] 170):=⟨_,rfl⟩;have sH:=sh (wY.out.keep ((BY _ w3).alloc (AS _) (.cells #[.string ⟨#[]⟩,.string ⟨#[]⟩,.int .i64 0,.int .i64 0,.int .i64 0] 170)));have C6:=sh (Bk.new w3 170 #[.string ⟨#[]⟩,.string ⟨#[]⟩,.int .i64 0,.int .i64 0,.int .i64 0]);have d4:w.heap.size+1+1+1≠w3.heap.size:=by have:=wY.out.b4.lt;omega
    rw[<-o6]at sH C6 |-;obtain⟨x0,x1,x2,x3,x4,y0,y1,y2,y3,y4,x5⟩:=C6.out.gG;obtain⟨r0,r1,r2,r3,r4,s0,s1,s2,s3,s4,r5⟩:=sH.out.b4.gG;clear c1 c2 c3 l1 l2 l3 l4 o6
    go_region
    go_wp2_with fail
    refine abT (v:= .tuple #[.int .i64 (p:Int),.agg #[.string ⟨#[]⟩,.string ⟨#[]⟩,.int .i64 0,.int .i64 0,.int .i64 0],.bool false]) (by simp[acJ,results180,go_sem,r0,r1,r2,r3,r4,r5]) rfl ?_;refine⟨?_,_,Ce.zero,rfl,sh ((HW.out Ce.zero).2 (fun h=>nomatch h))⟩;exact(((((sH.out.old.setCell (p:=⟨w.heap.size+1+1+1,0,none⟩) (by simp;omega) _).setCell (p:=⟨w.heap.size+1+1+1,1,none⟩) (by simp;omega) _).setCell (p:=⟨w.heap.size+1+1+1,2,none⟩) (by simp;omega) _).setCell (p:=⟨w.heap.size+1+1+1,3,none⟩) (by simp;omega) _).setCell (p:=⟨w.heap.size+1+1+1,4,none⟩) (by simp;omega) _).drew
  | false=>
    have hp0:0<p:=(HZ.out rfl).resolve_left (by first|exact ahi|(intro h;cases h));have MP:p-1<l.length:=by omega
    obtain⟨y,hy⟩:∃y,y=l[p-1]:=⟨_,rfl⟩;have KO:=sh (HG.out (p-1) MP);have HY:=sh (show l[p-1]? =some y by rw[aaG MP,hy]);rw[<-hy,show ((p-1:Nat):Int)=(p:Int)-1 by omega]at KO;clear hy;go_wp2_with fail
    refine(KO.out _).mono ?_;rintro e w6 ⟨rfl,ga⟩;obtain⟨-,-,-,-,-,-,hn6,WZ⟩:=bN ga;have zJ:=sh (wY.out.keep hn6);have OS:=sh WZ;have d1:w.heap.size≠w3.heap.size:=by have:=wY.out.b1.lt;omega
    have d2:w.heap.size+1≠w3.heap.size:=by have:=wY.out.b2.lt;omega
    have d3:w.heap.size+1+1≠w3.heap.size:=by have:=wY.out.b3.lt;omega
    have d4:w.heap.size+1+1+1≠w3.heap.size:=by have:=wY.out.b4.lt;omega
    clear c1 c2 c3 l1 l2 l3 l4 ga hn6 WZ;obtain⟨u0,u1,u2,u3,u4,v0,v1,v2,v3,v4,ul⟩:=OS.out.gG;have c1:=zJ.out.b1.cell 0;have c2:=zJ.out.b2.cell 0;have c3:=zJ.out.b3.cell 0;have l1:=zJ.out.b1.lt;have l2:=zJ.out.b2.lt;have l3:=zJ.out.b3.lt;have l4:=zJ.out.b4.lt;go_wp2_with fail
    obtain⟨w5,o6⟩:∃w5,w5=World.j9 w6 w3.heap.size y:=⟨_,rfl⟩
    change Code.wp _ _ _ _ (World.j9 w6 w3.heap.size y)
    have sH:=sh (zJ.out.j9 (by have:=wY.out.b4.lt;omega) y:Sk w _ s key (World.j9 w6 w3.heap.size y));have C6:=sh (oM OS.out y);rw[<-o6]at sH C6 |-;obtain⟨x0,x1,x2,x3,x4,y0,y1,y2,y3,y4,x5⟩:=C6.out.gG;obtain⟨r0,r1,r2,r3,r4,s0,s1,s2,s3,s4,r5⟩:=sH.out.b4.gG;clear u0 u1 u2 u3 u4 v0 v1 v2 v3 v4 ul c1 c2 c3 l1 l2 l3 l4 d1 d2 d3 o6
    go_region
    go_wp2_with fail
    refine abT (v:= .tuple #[.int .i64 ((p:Int)-1),.agg #[.string y.key,.string y.val,.int .i64 y.over,.int .i64 y.size,.int .i64 y.child],.bool false]) (by simp[acJ,results180,go_sem,r0,r1,r2,r3,r4,r5]) rfl ?_;refine⟨?_,_,y,rfl,sh ((HW.out y).2 ?_)⟩
    ·exact(((((sH.out.old.setCell (p:=⟨w.heap.size+1+1+1,0,none⟩) (by simp;omega) _).setCell (p:=⟨w.heap.size+1+1+1,1,none⟩) (by simp;omega) _).setCell (p:=⟨w.heap.size+1+1+1,2,none⟩) (by simp;omega) _).setCell (p:=⟨w.heap.size+1+1+1,3,none⟩) (by simp;omega) _).setCell (p:=⟨w.heap.size+1+1+1,4,none⟩) (by simp;omega) _).drew
    ·exact HY.out
namespace Nd
theorem uh{l:List Ce}{key:ByteArray}(h:has l key=true):∃c,l[spot l key]? =some c/\c.key=key:=by
 unfold has at h;cases hc:l[spot l key]? with
 | none=>rw[hc]at h;cases h
 | some c=>
  rw[hc]at h;simp only[beq_iff_eq]at h;exact⟨c,rfl,by rw[abV,abV]at h;exact ByteArray.ext (Array.ext' h)⟩
theorem vn{l:List Ce}(hr:rise l=true){key:ByteArray}{c:Ce}(hc:c∈l)(hk:c.key=key):has l key=true:=by
 obtain⟨i,hi,rfl⟩:=adp.1 hc;have h1:spot l key<=i:=by
  by_cases h:i<spot l key
  ·have:=gu l key i h hi
   rw[hk,lt_irrefl]at this;cases this
  ·omega
 have h2:spot l key=i:=by
  by_cases e:spot l key=i
  ·exact e
  ·have h3:=td hr i (spot l key) hi (by omega)
   have h4:=pD l key (by omega);rw[hk]at h3;rw[h3]at h4;cases h4
 unfold has;rw[h2,aaG hi];simp[hk]
end Nd
namespace Tr
theorem Iz{σ :ag}{cs:List Ce}{P:List Nat}{L:List En}(h:Part σ 0 cs P L)(hr:Nd.rise cs=true)(key:ByteArray):
  (∀c,Nd.has cs key=true->cs[Nd.spot cs key]? =some c->∃e∈L,e.cell=c/\c.key=key)/\(Nd.has cs key=false->∀e∈L,e.cell.key≠key):=by
 obtain⟨rfl,-,-,-⟩:=h;refine⟨fun c h1 h2=> ?_,fun h1 e he hk=> ?_⟩
 ·obtain⟨c',h3,h4⟩:=Nd.uh h1
  rw[h3]at h2;injection h2 with h2;subst h2;have:=List.mem_of_getElem? h3;obtain⟨e,he,rfl⟩:=List.mem_map.1 this;exact⟨e,he,rfl,h4⟩
 ·rw[Nd.vn hr (abO he) hk]at h1
  cases h1
theorem xx{σ :ag}{d:Nat}{cs:List Ce}{P:List Nat}{L:List En}(h:Part σ (d+1) cs P L)(hr:Nd.rise cs=true)(key:ByteArray):Nd.has cs key=true\/0<Nd.spot cs key:=by
 obtain⟨ks,rfl,-,-,⟨k,t,rfl,hk⟩,-⟩:=h;by_cases h0:0<Nd.spot ((k::t).map Kd.cell) key
 ·exact .inr h0
 ·refine .inl (Nd.vn hr (c:=k.cell) (by simp) ?_)
  have h2:Nd.spot ((k::t).map Kd.cell) key=0:=by omega
  have h1:=Nd.pD ((k::t).map Kd.cell) key (by rw[h2];simp);have h1:Nd.lt k.cell.key key=false:=by
   have h9:∀i (hi:i<((k::t).map Kd.cell).length),i=0->(((k::t).map Kd.cell)[i])=k.cell:=fun i hi e=>by subst e;rfl
   rw[h9 _ _ h2]at h1;exact h1
  have h3:k.cell.key=⟨#[]⟩:=hk;rcases Nd.iJ k.cell.key key with h4|h4|h4
  ·rw[h1]at h4;cases h4
  ·exact h4
  ·rw[h3,le_nil]at h4;cases h4
theorem AQ{σ :ag}{d:Nat}{cs:List Ce}{P:List Nat}{L:List En}(h:Part σ (d+1) cs P L)(hr:Nd.rise cs=true)(key:ByteArray){c:Ce}(hc:cs[Nd.low cs key]? =some c):
  ∃(P':List Nat) (L':List En),aD σ d c.child P' L'/\(∀n∈P',n∈P)/\(∀e∈L',e∈L)/\∀e∈L,e.cell.key=key->e∈L':=by
 have hs:=xx h hr key;obtain⟨ks,rfl,rfl,rfl,-,j5,ia⟩:=h;have hj:=List.getElem?_eq_some_iff.1 hc;obtain⟨hj,rfl⟩:=hj;obtain⟨j,hjd⟩:∃j,j=Nd.low (ks.map Kd.cell) key:=⟨_,rfl⟩;simp only[<-hjd]at hj |-;rw[IS]at hj;have jI:ks[j]∈ks:=List.getElem_mem hj;refine⟨ks[j].P,ks[j].L,by rw[acn];exact(ia _ jI).2,fun n hn=>abr.2 ⟨_,jI,hn⟩,fun e he=>abr.2 ⟨_,jI,he⟩,fun e he hk=> ?_⟩;obtain⟨k,Vy,he⟩:=abr.1 he;obtain⟨i,hi,rfl⟩:=adp.1 Vy;by_cases e0:i=j
 ·subst e0;exact he
 exfalso;have Mq:(ks.map Kd.cell)[j]? =some (ks[j].cell):=by rw[aaG (by rw[IS];exact hj),acn]
 have hle:Nd.lt key ks[j].key=false/\(Nd.lt key ks[j].key=false):=by
  have:Nd.lt key ks[j].key=false:=by
   cases hh:Nd.has (ks.map Kd.cell) key with
   | true=>
    have:j=Nd.spot (ks.map Kd.cell) key:=by rw[hjd];unfold Nd.low;rw[hh];rfl
    obtain⟨c,h1,h2⟩:=Nd.uh hh;rw[<-this,Mq]at h1;injection h1 with h1;have h3:ks[j].key=key:=by rw[<-h2,<-h1];rfl
    rw[h3];exact Nd.lt_irrefl _
   | false=>
    have hp:0<Nd.spot (ks.map Kd.cell) key:=hs.resolve_left (by rw[hh];exact ahi);have:j=Nd.spot (ks.map Kd.cell) key-1:=by rw[hjd];unfold Nd.low;rw[hh];rfl
    have h1:=Nd.gu (ks.map Kd.cell) key j (by omega) (by rw[IS];exact hj);rw[acn]at h1;exact Nd.lt_asymm h1
  exact⟨this,this⟩
 obtain⟨hle,-⟩:=hle;obtain⟨s1,s2⟩:=j5;rw[List.pairwise_iff_getElem]at s1;rcases Nat.lt_or_ge i j with KA|KA
 ·have h1:=s1 i j (by rw[IS];exact hi) (by rw[IS];exact hj) KA e (by rw[acn];exact he)
  rw[acn,hk]at h1;have h2:Nd.lt key ks[j].key=true:=h1;rw[hle]at h2;cases h2
 ·have h1:Nd.lt key ks[i].key=false:=by
   have:=s2 ks[i].rg (abO Vy) e he;rw[hk]at this;exact this
  cases hh:Nd.has (ks.map Kd.cell) key with
  | true=>
   have hjs:j=Nd.spot (ks.map Kd.cell) key:=by rw[hjd];unfold Nd.low;rw[hh];rfl
   obtain⟨c,g1,g2⟩:=Nd.uh hh;rw[<-hjs,Mq]at g1;injection g1 with g1;have g3:ks[j].key=key:=by rw[<-g2,<-g1];rfl
   have g4:=Nd.td hr i j (by rw[IS];exact hi) (by omega);rw[acn,acn]at g4;have g5:Nd.lt ks[j].key ks[i].key=true:=g4;rw[g3,h1]at g5;cases g5
  | false=>
   have hp:0<Nd.spot (ks.map Kd.cell) key:=hs.resolve_left (by rw[hh];exact ahi);have hjs:j=Nd.spot (ks.map Kd.cell) key-1:=by rw[hjd];unfold Nd.low;rw[hh];rfl
   have g1:=Nd.iN hr key i (by omega) (by rw[IS];exact hi);rw[acn]at g1;have g2:Nd.lt ks[i].key key=false:=g1;have g3:ks[i].cell.key=key:=by
    rcases Nd.iJ ks[i].key key with h|h|h
    ·rw[g2]at h;cases h
    ·exact h
    ·rw[h1]at h;cases h
   rw[Nd.vn hr (abO Vy) g3]at hh;cases hh
end Tr
end Go.Proofs.YtjbcbnemdhbhbaaGreatDoor
