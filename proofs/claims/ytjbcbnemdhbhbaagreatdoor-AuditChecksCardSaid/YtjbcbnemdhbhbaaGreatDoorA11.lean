import Derived.Test.YtjbcbnemdhbhbaaGreatDoorA7
import Derived.Test.YtjbcbnemdhbhbaaGreatDoorA10
import Derived.Deep.QuietTactic
import Derived.BigQuiet
import Derived.Test.YtjbcbnemdhbhbaaGreatDoorA6
import Derived.Laws.OwnMore
set_option maxRecDepth 100000
set_option linter.unusedVariables false
set_option linter.unusedSimpArgs false
set_option maxHeartbeats 40000000
open Array renaming getElem?_toList→acL
open Bool renaming false_eq_true→adg
open Exists renaming intro→acA
open Go renaming Calls→aaf,Ending→acb,Value→No,World→AI,lt_of_block→ado,maxLen→abj
open Go.Lib renaming hid→sh
open Go.RowKit renaming Below→IT
open Go.RowKit.Below renaming refl→BY
open Go.Sem renaming run→aef
open Go.World.ownsRow renaming frozenAt→adR,lt→abq,stored→aec
open List renaming getElem?_eq_getElem→aaG,getElem?_eq_some_iff→abB,getElem_mem→abE,length_drop→abQ,length_take→abx,mem_cons→OF,take_of_length_le→aca
open Nat renaming le_refl→AS,le_trans→abw,zero_add→abR,zero_le→abi
open Option.some renaming injEq→acx
namespace Go.Proofs.YtjbcbnemdhbhbaaGreatDoor
open Go.Proofs.Tryz
open Go.RowKit
theorem aj.mono{w w':AI}{S S':List Nat}(h:aj w' S S')(hs:w.heap.size<=w'.heap.size):aj w S S':=(aj.refl w S).trans h hs
structure ay where
 T:TypeId
 v:No
 At:AI->List Nat->ag->Nat->Prop
 F:Prop
def Cl (B:Nat) (S:List Nat) (b:Nat):Prop:=B<=b/\b∉S
def Step (p:ay) (S:List Nat) (w w':AI) (σ':ag) (k':Nat):Prop:=∃S',p.At w' S' σ' k'/\ah S w w'/\aj w S S'
def Full (p:ay) (S:List Nat) (w w':AI) (e:acb) (v:acb):Prop:=p.F/\e=v/\∃ σ',Step p S w w' σ' 0
structure Reads (p:ay):Prop where
 off:∀ {w w':AI} {S U:List Nat} {σ :ag} {k:Nat},p.At w S σ k->ah U w w'->(∀b∈S,b∉U)->p.At w' S σ k
 old:∀ {w:AI} {S:List Nat} {σ :ag} {k:Nat},p.At w S σ k->∀b∈S,b<w.heap.size
 less:∀ {w:AI} {S:List Nat} {σ :ag} {k k':Nat},p.At w S σ k->k'<=k->p.At w S σ k'
 load:∃(f:Nat) (r:No),(∀W,aef prog (nilAhead 496 p.T p.v "Load") W= .ok (some false) W)/\(∀W,aef prog (method 496 p.T p.v "Load") W= .ok (f,r) W)/\(∀args W,aef prog (callFunc f args) W= .ok (.enter f args) W)/\
  ∀(w:AI) (S:List Nat) (σ :ag) (k:Nat) (no:Nat) (x:rW),p.At w S σ k-> σ no=some x->aaf prog f #[r,.int .i64 no] w (fun e w'=>IT w.heap.size w w'/\∃a b:Int,e= .returned (.tuple #[.agg #[.int .i64 x.kind,.int .i64 a,.int .i64 b,.string x.body],.int .i64 0]))
structure cR (p:ay):Prop extends Reads p where
 drop:∃(f:Nat) (r:No),(∀W,aef prog (nilAhead 496 p.T p.v "Drop") W= .ok (some false) W)/\(∀W,aef prog (method 496 p.T p.v "Drop") W= .ok (f,r) W)/\(∀args W,aef prog (callFunc f args) W= .ok (.enter f args) W)/\
  ∀(w:AI) (S:List Nat) (σ :ag) (k:Nat) (no:Nat),p.At w S σ k-> σ no≠none->aaf prog f #[r,.int .i64 no] w (fun e w'=>e= .returned (.int .i64 0)/\Step p S w w' (Tr.cY σ no none) k)
 make:∃(f:Nat) (r:No),(∀W,aef prog (nilAhead 496 p.T p.v "Make") W= .ok (some false) W)/\(∀W,aef prog (method 496 p.T p.v "Make") W= .ok (f,r) W)/\(∀args W,aef prog (callFunc f args) W= .ok (.enter f args) W)/\
  ∀(w:AI) (S:List Nat) (σ :ag) (k:Nat) (x:rW),p.At w S σ k->(p.F\/1<=k)->1<=x.kind->x.kind<=3->x.body.size<=488->aaf prog f #[r,.int .i64 x.kind,.string x.body] w (fun e w'=>
   (∃n:Nat,e= .returned (.tuple #[.int .i64 n,.int .i64 0])/\1<=n/\n<512/\ σ n=none/\Step p S w w' (Tr.cY σ n (some x)) (k-1))\/Full p S w w' e (.returned (.tuple #[.int .i64 0,.int .i64 9])))
instance {p:ay}:Coe (cR p) (Reads p):=⟨fun h=>h.toReads⟩
theorem Reads.below{p:ay}(hp:Reads p){w w':AI}{S:List Nat}{σ :ag}{k:Nat}(h:p.At w S σ k)(hb:IT w.heap.size w w'):p.At w' S σ k:=hp.off h (ah.af hb []) (fun _ _=>List.not_mem_nil)
theorem aW.carry{w w':AI}{B:Nat}{S S':List Nat}{r:Rw}{l:List Ce}(h:aW w (Cl B S) r l)(ho:ah S w w')(hf:aj w S S'):aW w' (Cl B S') r l:=
 h.keep ho.size (fun b hb aH=>ho.block b aH hb.2) (fun b hb aH=>⟨hb.1,fun hs=>by rcases hf b hs with h1|h1;exact hb.2 h1;omega⟩)
theorem ba.off{w w':AI}{B:Nat}{S:List Nat}{v:No}{l:List Ce}(h:ba w B v l)(ho:ah S w w')(hS:∀b∈S,b<B):ba w' B v l:=
 ah.own ho h fun g hg hs=>by have:=(abq h g hg).1;have:=hS g hs;omega
theorem ba.mono{w:AI}{B B':Nat}{v:No}{l:List Ce}(h:ba w B v l)(hB:B'<=B):ba w B' v l:=me h hB
theorem ba.apart{w:AI}{B:Nat}{S:List Nat}{A:Option Addr}{n c:Nat}{l:List Ce}(h:ba w B (.slice A n c) l)(hS:∀b∈S,b<B):aW w (Cl B S) ⟨A,n,c⟩ l:=by
 obtain⟨r,hr,hc⟩:=h.row;obtain⟨rA,rn,rc⟩:=r;simp only at hr;injection hr with e1 e2 e3;subst e1 e2 e3;exact fZ.keep lF hc (AS _) (fun _ _ _=>rfl) fun b hb _=>⟨hb,fun hs=>by have:=hS b hs;omega⟩
theorem N3{p:ay}(hp:Reads p){w:AI}{S:List Nat}{σ :ag}{k:Nat}(h:p.At w S σ k)(no:Nat)(leaf:Bool)(s:ByteArray)(hσ : σ no=some ⟨if leaf then 1 else 2,s⟩):
  aaf prog 179 #[.iface p.T p.v,.int .i64 no] w (fun e w'=>e= .returned (.tuple #[.bool leaf,.string s,.int .i64 0])/\IT w.heap.size w w'):=by
 obtain⟨f,r,-,hm,he,hl⟩:=hp.load;have HL:=sh (hl w S σ k no _ h hσ);clear hl h hσ hp;cases leaf
 all_goals
  go_enter func179,ntmps179
  go_wp2_with fail
  refine HL.out.mono ?_;rintro e w1 ⟨ar,a,b,rfl⟩;have dG:=sh ar;clear ar;go_wp2_with fail
  go_quiet (fail)
  go_wp2_with fail
  go_ret3
  exact⟨rfl,below_drewN (dG.out.alloc dG.out.size _) _⟩
def Qc (leaf:Bool) (l:List Ce) (w:AI) (e:acb) (w':AI):Prop:=IT w.heap.size w w'/\∃(A:Option Addr) (c:Nat),e= .returned (.tuple #[.bool leaf,.slice A l.length c,.int .i64 0])/\ba w' w.heap.size (.slice A l.length c) l
theorem kE{p:ay}(hp:Reads p){w:AI}{S:List Nat}{σ :ag}{k:Nat}(h:p.At w S σ k)(no:Nat)(leaf:Bool)(l:List Ce)(hr:Nd.right leaf l=true)(hs:Nd.sum leaf l<=488)(hσ : σ no=some ⟨if leaf then 1 else 2,Nd.str leaf l⟩):
  aaf prog 187 #[.iface p.T p.v,.int .i64 no] w (Qc leaf l w):=by
 have HR:=sh (N3 hp h no leaf _ hσ);have HD:=sh fun(W:AI)=>qh leaf l W hr hs;obtain⟨s,nu⟩:∃s,s=Nd.str leaf l:=⟨_,rfl⟩;rw[<-nu]at HR HD;clear hσ nu hp h hr hs;go_enter func187,ntmps187
 go_wp2_with (first
  | (go_at_call 179;go_must (refine HR.out.mono ?_);rintro e w1 ⟨rfl,ar⟩;have dG:=sh ar;clear ar)
  | (go_at_call 232;go_must (refine(HD.out _).mono ?_);rintro e w2 ⟨aC,A,c,rfl,aq⟩;have gP:=sh (dG.out.trans (aC.mono dG.out.size));have fX:=sh (ba.mono aq dG.out.size);clear aC aq)
  | fail)
 go_ret3
 exact⟨gP.out,A,c,rfl,fX.out⟩
def Uw (w:AI) (S:Nat->Prop) (x:Pt) (vs:List No):Prop:=∃r:Rw,vs=[.string x.key,.bool x.leaf,.slice r.A r.n r.c]/\aW w S r x.cells
theorem Ct:km Uw:=fun hs hk hT d c h=>by
 obtain⟨r,h1,h2⟩:=h;exact⟨r,h1,h2.keep hs hk hT⟩
def gF (w:AI) (S:Nat->Prop) (r:Rw) (l:List Pt):Prop:=fZ 3 Uw w S r l
theorem gF.keep{w w':AI}{S T:Nat->Prop}{r:Rw}{l:List Pt}(h:gF w S r l)(hs:w.heap.size<=w'.heap.size)(hk:∀b,S b->b<w.heap.size->w'.heap[b]? =w.heap[b]?)(hT:∀b,S b->b<w.heap.size->T b):gF w' T r l:=
 fZ.keep Ct h hs hk hT
theorem gF.below{w w':AI}{S:Nat->Prop}{r:Rw}{l:List Pt}(h:gF w S r l)(hb:IT w.heap.size w w'):gF w' S r l:=
 h.keep hb.size (fun b _ aH=>hb.block b aH) (fun _ h _=>h)
theorem gF.carry{w w':AI}{B:Nat}{S S':List Nat}{r:Rw}{l:List Pt}(h:gF w (Cl B S) r l)(ho:ah S w w')(hf:aj w S S'):gF w' (Cl B S') r l:=
 h.keep ho.size (fun b hb aH=>ho.block b aH hb.2) (fun b hb aH=>⟨hb.1,fun hs=>by rcases hf b hs with h1|h1;exact hb.2 h1;omega⟩)
theorem gF.at{w:AI}{S:Nat->Prop}{r:Rw}{l:List Pt}(h:gF w S r l)(i:Nat)(hi:i<l.length):∃b o,r.A=some ⟨b,o,none⟩/\(S b/\b<w.heap.size)/\∃q:Rw,w.cell? ⟨b,o+i*3,none⟩=some (.string l[i].key)/\
  w.cell? ⟨b,o+i*3+1,none⟩=some (.bool l[i].leaf)/\w.cell? ⟨b,o+i*3+2,none⟩=some (.slice q.A q.n q.c)/\aW w S q l[i].cells:=by
 obtain⟨h1,h2,h3,h4⟩:=h;obtain⟨b,o,c,q1,q2,q3,q4,q5⟩:=h4 i l[i] (aaG hi);obtain⟨q,rfl,hq⟩:=q5;exact⟨b,o,q1,q2,q,q4 0 _ rfl,q4 1 _ rfl,q4 2 _ rfl,hq⟩
theorem gF.lit{w:AI}{S:Nat->Prop}{jH:Nat}{x:Pt}{q:Rw}(h:Bk w jH 319 #[.string x.key,.bool x.leaf,.slice q.A q.n q.c])(hS:S jH)(hq:aW w S q x.cells):gF w S ⟨some ⟨jH,0,none⟩,1,1⟩ [x]:=by
 refine⟨rfl,AS _,by unfold abj;show 1<=_;omega,fun i d hd=> ?_⟩;have hi:i<1:=(abB.1 hd).1;obtain rfl:i=0:=by omega
 obtain rfl:x=d:=by simpa using hd
 refine⟨jH,0,[.string x.key,.bool x.leaf,.slice q.A q.n q.c],rfl,⟨hS,h.lt⟩,rfl,fun j u hu=> ?_,q,rfl,hq⟩;have e:(0+0*3+j)=j:=by omega
 rw[e,h.cell j,<-acL];exact hu
def Qd (key:ByteArray) (leaf:Bool) (r:Rw) (w:AI) (e:acb) (w':AI):Prop:=IT w.heap.size w w'/\∃g:Nat,w.heap.size<=g/\e= .returned (.slice (some ⟨g,0,none⟩) 1 1)/\Bk w' g 319 #[.string key,.bool leaf,.slice r.A r.n r.c]
def mz (B:Nat) (S:List Nat) (ps:List Pt) (w:AI) (e:acb) (w':AI):Prop:=IT w.heap.size w w'/\∃r:Rw,e= .returned (.slice r.A r.n r.c)/\gF w' (Cl B S) r ps
theorem CL(leaf:Bool)(l:List Ce)(j:Nat)(h:j<l.length):((l.take (j+1)).map (Nd.size leaf)).sum=((l.take j).map (Nd.size leaf)).sum+Nd.size leaf l[j]:=by
 rw[List.take_succ_eq_append_getElem h,List.map_append,List.sum_append];simp
theorem mS(key:ByteArray)(leaf:Bool)(r:Rw)(l:List Ce)(S:Nat->Prop)(w:AI)(h:aW w S r l)(hr:∀c∈l,Nd.aL leaf c=true)(hs:Nd.sum leaf l<=488):
  aaf prog 162 #[.string key,.bool leaf,.slice r.A r.n r.c] w (Qd key leaf r w):=by
 obtain⟨A,n,cap⟩:=r;have iT:=h;obtain⟨h1,h2,h3,-⟩:=iT;simp only at h1 h2 h3 |-;subst h1;have De:l.length<=10000:=by have:=Nd.ey leaf l;omega
 obtain⟨T,hT⟩:∃T,T=Nd.sum leaf l:=⟨_,rfl⟩;have HT:=sh hT;have hTb:T<=488:=by omega
 have HL:=sh hr;have HR:=sh h;have cI:cap<=9223372036854775807:=by unfold abj at h3;omega
 have zT:decide ((T:Int)<=488)=true:=decide_eq_true (by omega);clear h h3 hr hs hT;go_enter func162,ntmps162
 go_wp2_with fail
 go_loopw [7,15] (fun u i wr=>∃(j y:Nat),i= .int .i64 j/\u= .int .i64 y/\j<=l.length/\y<=2+223*j/\Hid (y=2+((l.take j).map (Nd.size leaf)).sum)/\IT w.heap.size w wr) (fun _ i _=>l.length-(intOf i).toNat)
 case atStart=>exact⟨0,2,rfl,rfl,abi _,by omega,sh (by simp),BY _ _⟩
 case round=>
  obtain⟨j,y,rfl,rfl,hj,hy,HY,eE⟩:=hrel;have fW:=sh eE;by_cases aH:j<l.length
  ·have z1:decide ((j:Int)<(l.length:Int))=true:=decide_eq_true (by omega)
   obtain⟨b,o,hA,hS,q0,q1,q2,q3,q4⟩:=(HR.out.below eE).at j aH;simp only at hA;subst hA;have fV:=hS.2;have eW:=HL.out _ (abE aH);have cZ:=(Nd.size_le eW).2;have HC:=sh fun(W:AI)=>oB leaf l[j] W eW;have P6:=sh (CL leaf l j aH);obtain⟨z,hz⟩:∃z,z=Nd.size leaf l[j]:=⟨_,rfl⟩;rw[<-hz]at HC P6 cZ;obtain⟨x,hx⟩:∃x,x=l[j]:=⟨_,rfl⟩;rw[<-hx]at HC q0 q1 q2 q3 q4;clear hS eW hz hx eE;go_wp2_with (first
    | (go_at_call 219;go_must (refine(HC.out _).mono ?_);rintro e w2 ⟨rfl,aC⟩;have bm:=sh (fW.out.trans ((bN aC).2.2.2.2.2.2.1.mono fW.out.size));clear aC)
    | fail)
   go_roundw
   case rel=>first|exact⟨j+1,y+z,by go_num,by go_num,by omega,by omega,sh (by rw[P6.out,HY.out];omega),bm.out⟩|((repeat apply acA);exact⟨⟨j+1,y+z,by go_num,by go_num,by omega,by omega,sh (by rw[P6.out,HY.out];omega),bm.out⟩,rfl⟩)
   case measure=>simp[intOf];omega
  ·have z1:decide ((j:Int)<(l.length:Int))=false:=decide_eq_false (by omega)
   obtain rfl:j=l.length:=by omega
   have hyT:y=T:=by rw[HY.out,HT.out,aca (AS _)];rfl
   subst hyT;clear eE HY hy;go_wp2_with fail
   go_ret
   have aC:IT w.heap.size w (wr.alloc (.cells #[.string key,.bool leaf,.slice A l.length cap] 319)):=fW.out.alloc fW.out.size _;have cZ:=fW.out.size;have hk:=Bk.new wr 319 #[.string key,.bool leaf,.slice A l.length cap];exact⟨aC,wr.heap.size,cZ,rfl,hk⟩
theorem aW.drop{w:AI}{S:Nat->Prop}{b o n cap:Nat}{l:List Ce}(h:aW w S ⟨some ⟨b,o,none⟩,n,cap⟩ l)(c:Nat)(hc:c<=l.length):aW w S ⟨some ⟨b,o+c*5,none⟩,n-c,cap-c⟩ (l.drop c):=by
 obtain⟨h1,h2,h3,h4⟩:=h;simp only at h1 h2 h3;refine⟨by show n-c=_;rw[abQ,h1],by show n-c<=cap-c;omega,by show cap-c<=abj;omega,fun i d hd=> ?_⟩;rw[List.getElem?_drop]at hd;obtain⟨b',o',x,q1,q2,q3,q4,q5⟩:=h4 (c+i) d hd;simp only[acx,Addr.mk.injEq,and_true]at q1;obtain⟨rfl,rfl⟩:=q1;refine⟨b,o+c*5,x,rfl,q2,q3,fun j u hu=> ?_,q5⟩;have:=q4 j u hu
 rwa [show o+(c+i)*5+j=o+c*5+i*5+j by omega]at this
theorem aW.take{w:AI}{S:Nat->Prop}{A:Option Addr}{n cap:Nat}{l:List Ce}(h:aW w S ⟨A,n,cap⟩ l)(c:Nat)(hc:c<=l.length):aW w S ⟨A,c,cap⟩ (l.take c):=by
 obtain⟨h1,h2,h3,h4⟩:=h;simp only at h1 h2 h3;refine⟨by show c=_;rw[abx];omega,by show c<=cap;omega,h3,fun i d hd=> ?_⟩;have hi:i<(l.take c).length:=(abB.1 hd).1;rw[abx]at hi;rw[List.getElem?_take,if_pos (by omega)]at hd;exact h4 i d hd
theorem ba.full{w:AI}{B:Nat}{A:Option Addr}{n c:Nat}{l:List Ce}(h:ba w B (.slice A n c) l)(h0:0<l.length):∃g,A=some ⟨g,0,none⟩/\B<=g/\g<w.heap.size/\n=l.length/\n<=c/\c<=abj:=by
 rcases h.2 with⟨-,h2⟩|⟨g,cap,cur,h1,h2,h3,h4,h5,-⟩
 ·omega
 ·injection h1 with e1 e2 e3
  subst e1 e2 e3;exact⟨g,rfl,h2,ado h3,rfl,h4,h5⟩
theorem ba.N7{w:AI}{B g c n:Nat}{l:List Ce}(h:ba w B (.slice (some ⟨g,0,none⟩) n c) l)(h0:0<l.length)(key:ByteArray):ba (w.setCell ⟨g,0,none⟩ (.string key)) B (.slice (some ⟨g,0,none⟩) n c) (Nd.first false key l):=by
 obtain⟨g',e1,-,-,hn,-⟩:=h.full h0;subst hn;have h1:=(aec h 0 (.string key)).1;unfold ba;cases l with
 | nil=>simp at h0
 | cons x t=>
  have e:(aA (x::t)).set 0 (.string key)=aA (Nd.first false key (x::t)):=by
   rw[show x::t=[x]++t from rfl,bP,fb];show _=aA ([{ x with key:=key }]++t);rw[bP,fb];rfl
  rw[e]at h1;rw[Nd.ir];exact h1
theorem ba.Wp{w:AI}{B g c n:Nat}{l:List Ce}(h:ba w B (.slice (some ⟨g,0,none⟩) n c) l)(h0:0<l.length):w.cell? ⟨g,0,none⟩=some (.string (l[0]'h0).key)/\w.frozen? ⟨g,0,none⟩=false:=by
 obtain⟨g',e1,-,-,hn,-⟩:=h.full h0;subst hn;refine⟨?_,adR h 0⟩;obtain⟨⟨rA,rn,rc⟩,hr,hc⟩:=h.row;simp only at hr;injection hr with e1 e2 e3;subst e1 e2 e3;obtain⟨b,o,hA,-,q0,-⟩:=hc.at 0 h0;injection hA with hA;injection hA with e1 e2;subst e1 e2;exact q0
theorem Fz{α :Type}{k:Nat}{At:AI->(Nat->Prop)-> α ->List No->Prop}{w:AI}{B E:Nat}{T:Nat->Prop}{v:No}{ds:List α}{css:List (List No)}(h3:w.ownsRow B E k v ds.length css.flatten)(h1:css.length=ds.length)(h2:∀c∈css,c.length=k)
  (h4:∀(i:Nat) (d: α) (c:List No),ds[i]? =some d->css[i]? =some c->At w T d c) (hT:∀b,B<=b->b<w.heap.size->T b):∃r:Rw,v= .slice r.A r.n r.c/\fZ k At w T r ds:=by
 obtain⟨hl,hr⟩:=h3;rcases hr with⟨rfl,hn⟩|⟨g,cap,cur,rfl,hb,hh,hc,hm,fy,dY⟩
 ·obtain rfl:ds=[]:=List.eq_nil_of_length_eq_zero hn
  exact⟨Rw.none,rfl,fZ.nil _ _⟩
 ·refine⟨⟨some ⟨g,0,none⟩,ds.length,cap⟩,rfl,rfl,by show ds.length<=cap;omega,hm,fun i d hd=> ?_⟩
  have hi:i<ds.length:=(abB.1 hd).1;obtain⟨c,Vf⟩:∃c,css[i]? =some c:=⟨css[i]'(by omega),aaG (by omega)⟩;have O8:=h2 c (List.mem_of_getElem? Vf);refine⟨g,0,c,rfl,⟨hT g hb (ado hh),ado hh⟩,O8,fun j u hu=> ?_,h4 i d c hd Vf⟩;have hj:j<k:=by rw[<-O8];exact(abB.1 hu).1
  rw[cell_of_row w g _ cur _ (0,0) hh,abR];have hf:=jd css h2 i c Vf j hj;rw[hu]at hf;have aH:i*k+j<css.flatten.length:=(abB.1 hf).1;rw[<-dY,List.getElem?_take_of_lt (by omega)]at hf;rw[<-acL];exact hf
theorem aW.sub{w:AI}{S T:Nat->Prop}{r:Rw}{l:List Ce}(h:aW w S r l)(hT:∀b,S b->b<w.heap.size->T b):aW w T r l:=h.keep (AS _) (fun _ _ _=>rfl) hT
theorem ba.as{w:AI}{B:Nat}{A:Option Addr}{n c:Nat}{l:List Ce}(h:ba w B (.slice A n c) l):aW w (fun b=>B<=b) ⟨A,n,c⟩ l:=by
 obtain⟨⟨rA,rn,rc⟩,hr,hc⟩:=h.row;simp only at hr;injection hr with e1 e2 e3;subst e1 e2 e3;exact hc
theorem Jd:(prog.info? 319).map (fun i=>(i.zero,i.size,i.bytes))=some (some (.agg #[.string ByteArray.empty,.bool false,.slice none 0 0]),3,48):=by kernel_rfl
theorem NT{w:AI}{g:Nat}{vs:List No}(h:Bk w g 319 vs.toArray)(hl:vs.length=3){B:Nat}(hB:B<=g):w.ownsRow B 319 3 (.slice (some ⟨g,0,none⟩) 1 1) 1 vs:=
 ⟨by rw[hl],.inr ⟨g,1,vs.toArray,rfl,hB,h,AS _,by unfold abj;omega,by simp[hl],by simp[aca,hl]⟩⟩
theorem NY{w:AI}{B:Nat}{T:Nat->Prop}{v:No}{x y:Pt}{r q:Rw}(h:w.ownsRow B 319 3 v 2 ([.string x.key,.bool x.leaf,.slice r.A r.n r.c]++[.string y.key,.bool y.leaf,.slice q.A q.n q.c]))(hr:aW w T r x.cells)(hq:aW w T q y.cells)(hT:∀b,B<=b->b<w.heap.size->T b):
  ∃r:Rw,v= .slice r.A r.n r.c/\gF w T r [x,y]:=
 Fz (α :=Pt) (k:=3) (At:=Uw) (T:=T) (ds:=[x,y]) (css:=[[.string x.key,.bool x.leaf,.slice r.A r.n r.c],[.string y.key,.bool y.leaf,.slice q.A q.n q.c]]) h rfl (fun c hc=>by
  rcases OF.1 hc with rfl|hc
  ·rfl
  ·obtain rfl:=List.mem_singleton.1 hc;rfl) (fun i d c hd hc=>by
  match i with
  | 0=>
   simp only[List.getElem?_cons_zero,acx]at hd hc;subst hd hc;exact⟨r,rfl,hr⟩
  | 1=>
   simp only[List.getElem?_cons_succ,List.getElem?_cons_zero,acx]at hd hc;subst hd hc;exact⟨q,rfl,hq⟩
  | i+2=>simp at hd) hT
theorem JB(key:ByteArray)(leaf:Bool)(b o n cap:Nat)(l:List Ce)(B:Nat)(S:List Nat)(w:AI)(h:aW w (Cl B S) ⟨some ⟨b,o,none⟩,n,cap⟩ l)(hS:∀b∈S,b<w.heap.size)(hB:B<=w.heap.size)(hr:∀c∈l,Nd.aL leaf c=true)(hs:488<Nd.sum leaf l)(kd:Nd.sum leaf l<=750):
  aaf prog 162 #[.string key,.bool leaf,.slice (some ⟨b,o,none⟩) n cap] w (mz B S (Tr.ck key leaf l) w):=by
 obtain⟨i0,hi,ez,dP,eh⟩:=info_parts Jd;obtain⟨c1,c2,c3,c4⟩:=Nd.AG leaf l 223 (fun c hc=>(Nd.size_le (hr c hc)).2) (AS _) hs kd;have iT:=h;obtain⟨h1,h2,h3,-⟩:=iT;simp only at h1 h2 h3;subst h1;have De:l.length<=10000:=by have:=Nd.ey leaf l;omega
 have oC:Small l:=⟨De,fun c hc=>by have:=Nd.iw (hr c hc);omega⟩;obtain⟨T,hT⟩:∃T,T=Nd.sum leaf l:=⟨_,rfl⟩;have HT:=sh hT;have hTb:T<=750:=by omega
 have hTl:488<T:=by omega
 have HH:=sh fun(W:AI) (hb:IT w.heap.size w W)=>Ma leaf ⟨some ⟨b,o,none⟩,l.length,cap⟩ l (Cl B S) W (h.below hb) (by omega) oC;obtain⟨c,hc⟩:∃c,c=Nd.cut leaf l:=⟨_,rfl⟩;have HC:=sh hc;rw[<-hc]at c1 c2 c3 c4 HH;have HL:=sh hr;have HR:=sh h;have HS:=sh hS;have yY:c<cap:=by omega
 have HD:=sh fun(W:AI) (hb:IT w.heap.size w W)=>(show aaf prog 221 #[.slice (some ⟨b,o+c*5,none⟩) (l.length-c) (cap-c)] W (iB (l.drop c) W) from
  mE ⟨some ⟨b,o+c*5,none⟩,l.length-c,cap-c⟩ (l.drop c) (Cl B S) W ((h.below hb).drop c (by omega)) (by rw[abQ];omega) (by rw[abQ];omega))
 have HE:=sh fun(W:AI) (hb:IT w.heap.size w W)=>(show aaf prog 221 #[.slice (some ⟨b,o,none⟩) c cap] W (iB (l.take c) W) from
  mE ⟨some ⟨b,o,none⟩,c,cap⟩ (l.take c) (Cl B S) W ((h.below hb).take c (by omega)) (by rw[abx];omega) (by rw[abx];omega))
 have Gs:(l.drop c).length=l.length-c:=abQ;have Pw:(l.take c).length=c:=by rw[abx];omega
 obtain⟨d,hd⟩:∃d,d=l.drop c:=⟨_,rfl⟩;obtain⟨t,ht⟩:∃t,t=l.take c:=⟨_,rfl⟩;have D:=sh hd;have T':=sh ht;rw[<-hd]at Gs HD c4;rw[<-ht]at Pw HE c3;have qZ:0<d.length:=by omega
 have zP:d.length<=10000:=by omega
 have Wg:0<t.length:=by omega
 have Gq:=sh (show ∀c∈d,Nd.aL leaf c=true from fun x hx=>hr x (by rw[hd]at hx;exact List.mem_of_mem_drop hx));have hRt:=sh (show ∀c∈t,Nd.aL leaf c=true from fun x hx=>hr x (by rw[ht]at hx;exact List.mem_of_mem_take hx));have C3:=sh c3;have C4:=sh c4;have TL:=sh Pw;have cI:cap<=9223372036854775807:=by unfold abj at h3;omega
 have zT:decide ((T:Int)<=488)=false:=decide_eq_false (by omega);clear h h3 hr hs hT hS kd oC c3 c4 hc hd ht Gs Pw;go_enter func162,ntmps162
 go_wp2_with fail
 go_loopw [7,15] (fun u i wr=>∃(j y:Nat),i= .int .i64 j/\u= .int .i64 y/\j<=l.length/\y<=2+223*j/\Hid (y=2+((l.take j).map (Nd.size leaf)).sum)/\IT w.heap.size w wr) (fun _ i _=>l.length-(intOf i).toNat)
 case atStart=>exact⟨0,2,rfl,rfl,abi _,by omega,sh (by simp),BY _ _⟩
 case round=>
  obtain⟨j,y,rfl,rfl,hj,hy,HY,eE⟩:=hrel;have fW:=sh eE;by_cases aH:j<l.length
  ·have z1:decide ((j:Int)<(l.length:Int))=true:=decide_eq_true (by omega)
   obtain⟨b',o',hA,hS,q0,q1,q2,q3,q4⟩:=(HR.out.below eE).at j aH;injection hA with hA;injection hA with e1 e2;subst e1 e2;have fV:=hS.2;have eW:=HL.out _ (abE aH);have cZ:=(Nd.size_le eW).2;have HC:=sh fun(W:AI)=>oB leaf l[j] W eW;have P6:=sh (CL leaf l j aH);obtain⟨z,hz⟩:∃z,z=Nd.size leaf l[j]:=⟨_,rfl⟩;rw[<-hz]at HC P6 cZ;obtain⟨x,hx⟩:∃x,x=l[j]:=⟨_,rfl⟩;rw[<-hx]at HC q0 q1 q2 q3 q4;clear hS eW hz hx eE;go_wp2_with (first
    | (go_at_call 219;go_must (refine(HC.out _).mono ?_);rintro e w2 ⟨rfl,aC⟩;have bm:=sh (fW.out.trans ((bN aC).2.2.2.2.2.2.1.mono fW.out.size));clear aC)
    | fail)
   go_roundw
   case rel=>first|exact⟨j+1,y+z,by go_num,by go_num,by omega,by omega,sh (by rw[P6.out,HY.out];omega),bm.out⟩|((repeat apply acA);exact⟨⟨j+1,y+z,by go_num,by go_num,by omega,by omega,sh (by rw[P6.out,HY.out];omega),bm.out⟩,rfl⟩)
   case measure=>simp[intOf];omega
  ·have z1:decide ((j:Int)<(l.length:Int))=false:=decide_eq_false (by omega)
   obtain rfl:j=l.length:=by omega
   have hyT:y=T:=by rw[HY.out,HT.out,aca (AS _)];rfl
   subst hyT;clear eE HY hy;go_wp2_with (first
    | (go_at_call 220;go_must (refine(HH.out _ fW.out).mono ?_);rintro e w2 ⟨rfl,aC⟩;have bm:=sh (fW.out.trans (aC.mono fW.out.size));clear aC)
    | fail)
   refine(HD.out _ bm.out).mono ?_;rintro e w3 ⟨aN,A3,c5,rfl,ax⟩;obtain⟨g,rfl,Ky,ra,-,Bo,zQ⟩:=ax.full qZ;have du:=sh (bm.out.trans (aN.mono bm.out.size));have im:=sh (ax.mono bm.out.size);obtain⟨Pp,hf0⟩:=ax.Wp qZ;obtain⟨ky,Mt⟩:∃ky,ky=(d[0]'qZ).key:=⟨_,rfl⟩;rw[<-Mt]at Pp;have KP:=sh Mt;clear aN ax Mt;have hgs:w.heap.size<=g:=abw bm.out.size Ky;have fh:∃wx,IT w.heap.size w wx/\ba wx w.heap.size (.slice (some ⟨g,0,none⟩) d.length c5) (Nd.first leaf ⟨#[]⟩ d)/\wx=(if leaf then w3 else w3.setCell ⟨g,0,none⟩ (.string ⟨#[]⟩)):=by
    cases leaf
    ·exact⟨_,du.out.setCell (p:=⟨g,0,none⟩) hgs _,im.out.N7 qZ _,rfl⟩
    ·exact⟨_,du.out,im.out,rfl⟩
   obtain⟨wx,Xi,GI,Rb⟩:=fh;obtain⟨d2,mK⟩:∃d2,d2=Nd.first leaf ⟨#[]⟩ d:=⟨_,rfl⟩;have Vj:d2.length=d.length:=by rw[mK,Nd.ir]
   have kd:Nd.sum leaf d2<=488:=by rw[mK];exact abw (Nd.nM _ _) C4.out
   have lW:∀c∈d2,Nd.aL leaf c=true:=by
    rw[mK];intro x hx;unfold Nd.first at hx;cases leaf
    ·cases hdd:d with
     | nil=>rw[hdd]at hx;simp at hx
     | cons y u=>
      rw[hdd]at hx;simp only[adg,if_false,OF]at hx;rcases hx with rfl|hx
      ·have h9:=Gq.out y (by rw[hdd];simp)
       simp only[Nd.aL,Nd.cn,adg,if_false,Bool.and_eq_true,decide_eq_true_eq,beq_iff_eq]at h9 |-;exact⟨⟨⟨⟨⟨by show (0:Nat)<=120;omega,h9.1.1.1.1.2⟩,h9.1.1.1.2⟩,h9.1.1.2⟩,h9.1.2⟩,h9.2⟩
      ·exact Gq.out x (by rw[hdd];simp[hx])
    ·exact Gq.out x hx
   rw[<-mK]at GI;rw[<-Vj]at GI;have m9:=sh (show Tr.ck key leaf l=[⟨key,leaf,t⟩,⟨ky,leaf,d2⟩]by
    unfold Tr.ck;rw[if_neg (by rw[<-HT.out];omega),<-HC.out,<-D.out,<-T'.out,<-mK];have e:(l.getD c Ce.zero).key=ky:=by
     have ni:c<l.length:=by omega
     rw[KP.out,show l.getD c Ce.zero=l[c]'ni by simp[List.getD,aaG ni]]
     congr 1
     have h9:d[0]'qZ=(l.drop c)[0]'(by rw[abQ];omega):=by simp[D.out]
     rw[h9,List.getElem_drop];simp
    rw[e])
   have vE:=sh mK;have jN:=sh Xi;have Ug:=sh GI;have YT:=sh Rb;have gY:=sh lW;have jO:=sh kd;have WU:=sh Vj;clear mK Xi GI Rb lW kd Vj Ky;cases leaf
   all_goals
    go_wp2_with fail
    have M6:=YT.out;simp only[adg,if_false,if_true]at M6;rw[<-M6];clear M6;refine(HE.out _ jN.out).mono ?_;rintro e w4 ⟨bT,A4,c6,rfl,cd⟩;obtain⟨g4,rfl,ae6,alq,-,alr,als⟩:=cd.full Wg;have fU:=sh (jN.out.trans (bT.mono jN.out.size));have tB:=sh (cd.mono jN.out.size);have Us:=sh (Ug.out.below bT);clear bT cd ae6;have yA:=sh (mS key _ ⟨some ⟨g4,0,none⟩,t.length,c6⟩ t _ w4 tB.out.as hRt.out C3.out);go_wp2_with fail
    refine yA.out.mono ?_;rintro e w5 ⟨cV,g5,SP,rfl,rf⟩;have m5:=sh (fU.out.trans (cV.mono fU.out.size));have HO5:=sh (tB.out.below cV);have HX5:=sh (Us.out.below cV);have sH:=sh rf;have ae7:w.heap.size<=g5:=abw fU.out.size SP;have pL:=sh (mS ky _ ⟨some ⟨g,0,none⟩,d2.length,c5⟩ d2 _ w5 HX5.out.as gY.out jO.out);rw[WU.out]at pL;clear cV rf yA SP;go_wp2_with fail
    refine pL.out.mono ?_;rintro e w6 ⟨ga,g6,Z7,rfl,rh⟩;have TU:=sh (m5.out.trans (ga.mono m5.out.size));have W7:=sh (HO5.out.below ga);have HX6:=sh (HX5.out.below ga);have zJ:=sh rh;have alu:w.heap.size<=g6:=abw m5.out.size Z7;have HG5:=sh (ae sH.out ga);have rU:=sh (NT (ae sH.out ga) rfl ae7);have HN6:=sh (show ∀(j:Nat) (u:No),[Value.string ky,.bool _,.slice (some ⟨g,0,none⟩) d.length c5][j]? =some u->w6.cell? ((⟨g6,0,none⟩:Addr).add j)=some u from fun j u hu=>by
     rw[bJ,abR,rh.cell j,<-acL];exact hu)
    clear ga rh pL Z7;have aeB:=TU.out.size;go_wp2_with (at_builtin;refine wpList_append_own _ rfl (.tmp 54) (.tmp 58) 250 rfl w.heap.size 319 i0 _ 3 48 underlying250 hi ez dP eh rfl (by omega) (.slice (some ⟨g5,0,none⟩) 1 1) 1 _ rfl rU.out ⟨g6,0,none⟩ 1 1 _ rfl rfl HN6.out (by simp[Value.oneCell']) (by unfold abj;omega) (by omega) aeB ?_;intro v' w7 BA zc uk)
    have hB7:IT w.heap.size w w7:=((ah.af TU.out []).grown zc (fun k hk=> .inr (by
     have:g5=k:=by simpa[Value.ownBlock]using hk
     omega))).below (AS _) (by simp)
    have hO7:ba w7 w.heap.size (.slice (some ⟨g4,0,none⟩) t.length c6) t:=World.ownsRow.kept W7.out zc (.inr (cz W7.out HG5.out (by decide)));have hX7:ba w7 w.heap.size (.slice (some ⟨g,0,none⟩) d2.length c5) d2:=World.ownsRow.kept HX6.out zc (.inr (cz HX6.out HG5.out (by decide)));rw[WU.out]at hX7;have hT:∀b,w.heap.size<=b->b<w7.heap.size->Cl B S b:=fun b h1 _=>⟨by omega,fun hh=>by have:=HS.out b hh;omega⟩;obtain⟨⟨rA,rn,rc⟩,GM,o5⟩:=NY (x:=⟨key,_,t⟩) (y:=⟨ky,_,d2⟩) (r:=⟨some ⟨g4,0,none⟩,t.length,c6⟩) (q:=⟨some ⟨g,0,none⟩,d.length,c5⟩) BA (hO7.as.sub hT) (hX7.as.sub hT) hT;simp only at GM;subst GM;clear BA zc uk;go_ret
    exact⟨hB7,⟨rA,rn,rc⟩,rfl,by rw[m9.out];exact o5⟩
theorem iz(key:ByteArray)(leaf:Bool)(r:Rw)(l:List Ce)(B:Nat)(S:List Nat)(w:AI)(h:aW w (Cl B S) r l)(hS:∀b∈S,b<w.heap.size)(hB:B<=w.heap.size)(hr:∀c∈l,Nd.aL leaf c=true)(hs:Nd.sum leaf l<=750):
  aaf prog 162 #[.string key,.bool leaf,.slice r.A r.n r.c] w (mz B S (Tr.ck key leaf l) w):=by
 by_cases hf:Nd.sum leaf l<=488
 ·refine(mS key leaf r l (Cl B S) w h hr hf).mono ?_
  rintro e w1 ⟨hb,g,hg,rfl,hk⟩;refine⟨hb,⟨some ⟨g,0,none⟩,1,1⟩,rfl,?_⟩;unfold Tr.ck;rw[if_pos hf];exact gF.lit hk ⟨by omega,fun hh=>by have:=hS g hh;omega⟩ (h.below hb)
 ·have h0:0<l.length:=by
   cases l with
   | nil=>simp[Nd.sum]at hf
   | cons c l=>simp
  obtain⟨A,n,cap⟩:=r;obtain⟨b,o,hA,-⟩:=h.at 0 h0;simp only at hA;subst hA;exact JB key leaf b o n cap l B S w h hS hB hr (by omega) hs
end Go.Proofs.YtjbcbnemdhbhbaaGreatDoor
