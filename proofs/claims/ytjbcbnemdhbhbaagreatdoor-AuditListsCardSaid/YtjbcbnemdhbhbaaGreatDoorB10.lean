import Derived.Test.YtjbcbnemdhbhbaaGreatDoorB6
import Derived.Test.YtjbcbnemdhbhbaaGreatDoorB9
import Derived.Deep.QuietTactic
import Derived.BigQuiet
import Derived.Test.YtjbcbnemdhbhbaaGreatDoorB5
import Derived.Laws.OwnMore
set_option maxRecDepth 100000
set_option linter.unusedVariables false
set_option linter.unusedSimpArgs false
set_option maxHeartbeats 40000000
open Array renaming getElem?_toList→acP
open Bool renaming false_eq_true→adh
open Exists renaming intro→acD
open Go renaming Calls→aag,Ending→aci,Value→IS,World→AI,lt_of_block→adu,maxLen→abi
open Go.Lib renaming hid→sh
open Go.RowKit renaming Below→No
open Go.RowKit.Below renaming refl→IN
open Go.Sem renaming run→aen
open Go.World.ownsRow renaming frozenAt→adP,lt→abr,stored→aed
open List renaming getElem?_eq_getElem→aaG,getElem?_eq_some_iff→abA,getElem_mem→abw,length_drop→abS,length_take→abv,mem_cons→IT,take_of_length_le→abI
open Nat renaming le_refl→AS,le_trans→abE,zero_add→abU,zero_le→abc
open Option.some renaming injEq→acI
namespace Go.Proofs.YtjbcbnemdhbhbaaGreatDoor
open Go.Proofs.Tryz
open Go.RowKit
theorem aj.mono{w w':AI}{S S':List Nat}(h:aj w' S S')(hs:w.heap.size<=w'.heap.size):aj w S S':=(aj.refl w S).trans h hs
structure aA where
 T:TypeId
 v:IS
 At:AI->List Nat->ag->Nat->Prop
 F:Prop
def Cl (B:Nat) (S:List Nat) (b:Nat):Prop:=B<=b/\b∉S
def Step (p:aA) (S:List Nat) (w w':AI) (σ':ag) (k':Nat):Prop:=∃S',p.At w' S' σ' k'/\ah S w w'/\aj w S S'
def Full (p:aA) (S:List Nat) (w w':AI) (e:aci) (v:aci):Prop:=p.F/\e=v/\∃ σ',Step p S w w' σ' 0
structure Reads (p:aA):Prop where
 off:∀ {w w':AI} {S U:List Nat} {σ :ag} {k:Nat},p.At w S σ k->ah U w w'->(∀b∈S,b∉U)->p.At w' S σ k
 old:∀ {w:AI} {S:List Nat} {σ :ag} {k:Nat},p.At w S σ k->∀b∈S,b<w.heap.size
 less:∀ {w:AI} {S:List Nat} {σ :ag} {k k':Nat},p.At w S σ k->k'<=k->p.At w S σ k'
 load:∃(f:Nat) (r:IS),(∀W,aen prog (nilAhead 496 p.T p.v "Load") W= .ok (some false) W)/\(∀W,aen prog (method 496 p.T p.v "Load") W= .ok (f,r) W)/\(∀args W,aen prog (callFunc f args) W= .ok (.enter f args) W)/\
  ∀(w:AI) (S:List Nat) (σ :ag) (k:Nat) (no:Nat) (x:rO),p.At w S σ k-> σ no=some x->aag prog f #[r,.int .i64 no] w (fun e w'=>No w.heap.size w w'/\∃a b:Int,e= .returned (.tuple #[.agg #[.int .i64 x.kind,.int .i64 a,.int .i64 b,.string x.body],.int .i64 0]))
structure dc (p:aA):Prop extends Reads p where
 drop:∃(f:Nat) (r:IS),(∀W,aen prog (nilAhead 496 p.T p.v "Drop") W= .ok (some false) W)/\(∀W,aen prog (method 496 p.T p.v "Drop") W= .ok (f,r) W)/\(∀args W,aen prog (callFunc f args) W= .ok (.enter f args) W)/\
  ∀(w:AI) (S:List Nat) (σ :ag) (k:Nat) (no:Nat),p.At w S σ k-> σ no≠none->aag prog f #[r,.int .i64 no] w (fun e w'=>e= .returned (.int .i64 0)/\Step p S w w' (Tr.cY σ no none) k)
 make:∃(f:Nat) (r:IS),(∀W,aen prog (nilAhead 496 p.T p.v "Make") W= .ok (some false) W)/\(∀W,aen prog (method 496 p.T p.v "Make") W= .ok (f,r) W)/\(∀args W,aen prog (callFunc f args) W= .ok (.enter f args) W)/\
  ∀(w:AI) (S:List Nat) (σ :ag) (k:Nat) (x:rO),p.At w S σ k->(p.F\/1<=k)->1<=x.kind->x.kind<=3->x.body.size<=488->aag prog f #[r,.int .i64 x.kind,.string x.body] w (fun e w'=>
   (∃n:Nat,e= .returned (.tuple #[.int .i64 n,.int .i64 0])/\1<=n/\n<512/\ σ n=none/\Step p S w w' (Tr.cY σ n (some x)) (k-1))\/Full p S w w' e (.returned (.tuple #[.int .i64 0,.int .i64 9])))
instance {p:aA}:Coe (dc p) (Reads p):=⟨fun h=>h.toReads⟩
theorem Reads.below{p:aA}(hp:Reads p){w w':AI}{S:List Nat}{σ :ag}{k:Nat}(h:p.At w S σ k)(hb:No w.heap.size w w'):p.At w' S σ k:=hp.off h (ah.ae hb []) (fun _ _=>List.not_mem_nil)
theorem aV.carry{w w':AI}{B:Nat}{S S':List Nat}{r:Rw}{l:List Ce}(h:aV w (Cl B S) r l)(ho:ah S w w')(hf:aj w S S'):aV w' (Cl B S') r l:=
 h.keep ho.size (fun b hb aI=>ho.block b aI hb.2) (fun b hb aI=>⟨hb.1,fun hs=>by rcases hf b hs with h1|h1;exact hb.2 h1;omega⟩)
theorem aZ.off{w w':AI}{B:Nat}{S:List Nat}{v:IS}{l:List Ce}(h:aZ w B v l)(ho:ah S w w')(hS:∀b∈S,b<B):aZ w' B v l:=
 ah.own ho h fun g hg hs=>by have:=(abr h g hg).1;have:=hS g hs;omega
theorem aZ.mono{w:AI}{B B':Nat}{v:IS}{l:List Ce}(h:aZ w B v l)(hB:B'<=B):aZ w B' v l:=l7 h hB
theorem aZ.apart{w:AI}{B:Nat}{S:List Nat}{A:Option Addr}{n c:Nat}{l:List Ce}(h:aZ w B (.slice A n c) l)(hS:∀b∈S,b<B):aV w (Cl B S) ⟨A,n,c⟩ l:=by
 obtain⟨r,hr,hc⟩:=h.row;obtain⟨rA,rn,rc⟩:=r;simp only at hr;injection hr with e1 e2 e3;subst e1 e2 e3;exact fR.keep lC hc (AS _) (fun _ _ _=>rfl) fun b hb _=>⟨hb,fun hs=>by have:=hS b hs;omega⟩
theorem NM{p:aA}(hp:Reads p){w:AI}{S:List Nat}{σ :ag}{k:Nat}(h:p.At w S σ k)(no:Nat)(leaf:Bool)(s:ByteArray)(hσ : σ no=some ⟨if leaf then 1 else 2,s⟩):
  aag prog 179 #[.iface p.T p.v,.int .i64 no] w (fun e w'=>e= .returned (.tuple #[.bool leaf,.string s,.int .i64 0])/\No w.heap.size w w'):=by
 obtain⟨f,r,-,hm,he,hl⟩:=hp.load;have HL:=sh (hl w S σ k no _ h hσ);clear hl h hσ hp;cases leaf
 all_goals
  go_enter func179,ntmps179
  go_wp2_with fail
  refine HL.out.mono ?_;rintro e w1 ⟨ar,a,b,rfl⟩;have dD:=sh ar;clear ar;go_wp2_with fail
  go_quiet (fail)
  go_wp2_with fail
  go_ret3
  exact⟨rfl,below_drewN (dD.out.alloc dD.out.size _) _⟩
def PJ (leaf:Bool) (l:List Ce) (w:AI) (e:aci) (w':AI):Prop:=No w.heap.size w w'/\∃(A:Option Addr) (c:Nat),e= .returned (.tuple #[.bool leaf,.slice A l.length c,.int .i64 0])/\aZ w' w.heap.size (.slice A l.length c) l
theorem oY{p:aA}(hp:Reads p){w:AI}{S:List Nat}{σ :ag}{k:Nat}(h:p.At w S σ k)(no:Nat)(leaf:Bool)(l:List Ce)(hr:Nd.right leaf l=true)(hs:Nd.sum leaf l<=488)(hσ : σ no=some ⟨if leaf then 1 else 2,Nd.str leaf l⟩):
  aag prog 187 #[.iface p.T p.v,.int .i64 no] w (PJ leaf l w):=by
 have HR:=sh (NM hp h no leaf _ hσ);have HD:=sh fun(W:AI)=>pW leaf l W hr hs;obtain⟨s,nS⟩:∃s,s=Nd.str leaf l:=⟨_,rfl⟩;rw[<-nS]at HR HD;clear hσ nS hp h hr hs;go_enter func187,ntmps187
 go_wp2_with (first
  | (go_at_call 179;go_must (refine HR.out.mono ?_);rintro e w1 ⟨rfl,ar⟩;have dD:=sh ar;clear ar)
  | (go_at_call 232;go_must (refine(HD.out _).mono ?_);rintro e w2 ⟨az,A,c,rfl,au⟩;have fY:=sh (dD.out.trans (az.mono dD.out.size));have gW:=sh (aZ.mono au dD.out.size);clear az au)
  | fail)
 go_ret3
 exact⟨fY.out,A,c,rfl,gW.out⟩
def UA (w:AI) (S:Nat->Prop) (x:Pt) (vs:List IS):Prop:=∃r:Rw,vs=[.string x.key,.bool x.leaf,.slice r.A r.n r.c]/\aV w S r x.cells
theorem BV:pT UA:=fun hs hk hT d c h=>by
 obtain⟨r,h1,h2⟩:=h;exact⟨r,h1,h2.keep hs hk hT⟩
def gy (w:AI) (S:Nat->Prop) (r:Rw) (l:List Pt):Prop:=fR 3 UA w S r l
theorem gy.keep{w w':AI}{S T:Nat->Prop}{r:Rw}{l:List Pt}(h:gy w S r l)(hs:w.heap.size<=w'.heap.size)(hk:∀b,S b->b<w.heap.size->w'.heap[b]? =w.heap[b]?)(hT:∀b,S b->b<w.heap.size->T b):gy w' T r l:=
 fR.keep BV h hs hk hT
theorem gy.below{w w':AI}{S:Nat->Prop}{r:Rw}{l:List Pt}(h:gy w S r l)(hb:No w.heap.size w w'):gy w' S r l:=
 h.keep hb.size (fun b _ aI=>hb.block b aI) (fun _ h _=>h)
theorem gy.carry{w w':AI}{B:Nat}{S S':List Nat}{r:Rw}{l:List Pt}(h:gy w (Cl B S) r l)(ho:ah S w w')(hf:aj w S S'):gy w' (Cl B S') r l:=
 h.keep ho.size (fun b hb aI=>ho.block b aI hb.2) (fun b hb aI=>⟨hb.1,fun hs=>by rcases hf b hs with h1|h1;exact hb.2 h1;omega⟩)
theorem gy.at{w:AI}{S:Nat->Prop}{r:Rw}{l:List Pt}(h:gy w S r l)(i:Nat)(hi:i<l.length):∃b o,r.A=some ⟨b,o,none⟩/\(S b/\b<w.heap.size)/\∃q:Rw,w.cell? ⟨b,o+i*3,none⟩=some (.string l[i].key)/\
  w.cell? ⟨b,o+i*3+1,none⟩=some (.bool l[i].leaf)/\w.cell? ⟨b,o+i*3+2,none⟩=some (.slice q.A q.n q.c)/\aV w S q l[i].cells:=by
 obtain⟨h1,h2,h3,h4⟩:=h;obtain⟨b,o,c,q1,q2,q3,q4,q5⟩:=h4 i l[i] (aaG hi);obtain⟨q,rfl,hq⟩:=q5;exact⟨b,o,q1,q2,q,q4 0 _ rfl,q4 1 _ rfl,q4 2 _ rfl,hq⟩
theorem gy.lit{w:AI}{S:Nat->Prop}{jC:Nat}{x:Pt}{q:Rw}(h:Bk w jC 319 #[.string x.key,.bool x.leaf,.slice q.A q.n q.c])(hS:S jC)(hq:aV w S q x.cells):gy w S ⟨some ⟨jC,0,none⟩,1,1⟩ [x]:=by
 refine⟨rfl,AS _,by unfold abi;show 1<=_;omega,fun i d hd=> ?_⟩;have hi:i<1:=(abA.1 hd).1;obtain rfl:i=0:=by omega
 obtain rfl:x=d:=by simpa using hd
 refine⟨jC,0,[.string x.key,.bool x.leaf,.slice q.A q.n q.c],rfl,⟨hS,h.lt⟩,rfl,fun j u hu=> ?_,q,rfl,hq⟩;have e:(0+0*3+j)=j:=by omega
 rw[e,h.cell j,<-acP];exact hu
def PK (key:ByteArray) (leaf:Bool) (r:Rw) (w:AI) (e:aci) (w':AI):Prop:=No w.heap.size w w'/\∃g:Nat,w.heap.size<=g/\e= .returned (.slice (some ⟨g,0,none⟩) 1 1)/\Bk w' g 319 #[.string key,.bool leaf,.slice r.A r.n r.c]
def mo (B:Nat) (S:List Nat) (ps:List Pt) (w:AI) (e:aci) (w':AI):Prop:=No w.heap.size w w'/\∃r:Rw,e= .returned (.slice r.A r.n r.c)/\gy w' (Cl B S) r ps
theorem Cn(leaf:Bool)(l:List Ce)(j:Nat)(h:j<l.length):((l.take (j+1)).map (Nd.size leaf)).sum=((l.take j).map (Nd.size leaf)).sum+Nd.size leaf l[j]:=by
 rw[List.take_succ_eq_append_getElem h,List.map_append,List.sum_append];simp
theorem mL(key:ByteArray)(leaf:Bool)(r:Rw)(l:List Ce)(S:Nat->Prop)(w:AI)(h:aV w S r l)(hr:∀c∈l,Nd.aP leaf c=true)(hs:Nd.sum leaf l<=488):
  aag prog 162 #[.string key,.bool leaf,.slice r.A r.n r.c] w (PK key leaf r w):=by
 obtain⟨A,n,cap⟩:=r;have gr:=h;obtain⟨h1,h2,h3,-⟩:=gr;simp only at h1 h2 h3 |-;subst h1;have CW:l.length<=10000:=by have:=Nd.e8 leaf l;omega
 obtain⟨T,hT⟩:∃T,T=Nd.sum leaf l:=⟨_,rfl⟩;have HT:=sh hT;have hTb:T<=488:=by omega
 have HL:=sh hr;have HR:=sh h;have dC:cap<=9223372036854775807:=by unfold abi at h3;omega
 have zT:decide ((T:Int)<=488)=true:=decide_eq_true (by omega);clear h h3 hr hs hT;go_enter func162,ntmps162
 go_wp2_with fail
 go_loopw [7,15] (fun u i wr=>∃(j y:Nat),i= .int .i64 j/\u= .int .i64 y/\j<=l.length/\y<=2+223*j/\Hid (y=2+((l.take j).map (Nd.size leaf)).sum)/\No w.heap.size w wr) (fun _ i _=>l.length-(intOf i).toNat)
 case atStart=>exact⟨0,2,rfl,rfl,abc _,by omega,sh (by simp),IN _ _⟩
 case round=>
  obtain⟨j,y,rfl,rfl,hj,hy,HY,eO⟩:=hrel;have fO:=sh eO;by_cases aI:j<l.length
  ·have z1:decide ((j:Int)<(l.length:Int))=true:=decide_eq_true (by omega)
   obtain⟨b,o,hA,hS,q0,q1,q2,q3,q4⟩:=(HR.out.below eO).at j aI;simp only at hA;subst hA;have gH:=hS.2;have eW:=HL.out _ (abw aI);have cZ:=(Nd.size_le eW).2;have HC:=sh fun(W:AI)=>ob leaf l[j] W eW;have PB:=sh (Cn leaf l j aI);obtain⟨z,hz⟩:∃z,z=Nd.size leaf l[j]:=⟨_,rfl⟩;rw[<-hz]at HC PB cZ;obtain⟨x,hx⟩:∃x,x=l[j]:=⟨_,rfl⟩;rw[<-hx]at HC q0 q1 q2 q3 q4;clear hS eW hz hx eO;go_wp2_with (first
    | (go_at_call 219;go_must (refine(HC.out _).mono ?_);rintro e w2 ⟨rfl,az⟩;have bz:=sh (fO.out.trans ((bN az).2.2.2.2.2.2.1.mono fO.out.size));clear az)
    | fail)
   go_roundw
   case rel=>first|exact⟨j+1,y+z,by go_num,by go_num,by omega,by omega,sh (by rw[PB.out,HY.out];omega),bz.out⟩|((repeat apply acD);exact⟨⟨j+1,y+z,by go_num,by go_num,by omega,by omega,sh (by rw[PB.out,HY.out];omega),bz.out⟩,rfl⟩)
   case measure=>simp[intOf];omega
  ·have z1:decide ((j:Int)<(l.length:Int))=false:=decide_eq_false (by omega)
   obtain rfl:j=l.length:=by omega
   have hyT:y=T:=by rw[HY.out,HT.out,abI (AS _)];rfl
   subst hyT;clear eO HY hy;go_wp2_with fail
   go_ret
   have az:No w.heap.size w (wr.alloc (.cells #[.string key,.bool leaf,.slice A l.length cap] 319)):=fO.out.alloc fO.out.size _;have cZ:=fO.out.size;have hk:=Bk.new wr 319 #[.string key,.bool leaf,.slice A l.length cap];exact⟨az,wr.heap.size,cZ,rfl,hk⟩
theorem aV.drop{w:AI}{S:Nat->Prop}{b o n cap:Nat}{l:List Ce}(h:aV w S ⟨some ⟨b,o,none⟩,n,cap⟩ l)(c:Nat)(hc:c<=l.length):aV w S ⟨some ⟨b,o+c*5,none⟩,n-c,cap-c⟩ (l.drop c):=by
 obtain⟨h1,h2,h3,h4⟩:=h;simp only at h1 h2 h3;refine⟨by show n-c=_;rw[abS,h1],by show n-c<=cap-c;omega,by show cap-c<=abi;omega,fun i d hd=> ?_⟩;rw[List.getElem?_drop]at hd;obtain⟨b',o',x,q1,q2,q3,q4,q5⟩:=h4 (c+i) d hd;simp only[acI,Addr.mk.injEq,and_true]at q1;obtain⟨rfl,rfl⟩:=q1;refine⟨b,o+c*5,x,rfl,q2,q3,fun j u hu=> ?_,q5⟩;have:=q4 j u hu
 rwa [show o+(c+i)*5+j=o+c*5+i*5+j by omega]at this
theorem aV.take{w:AI}{S:Nat->Prop}{A:Option Addr}{n cap:Nat}{l:List Ce}(h:aV w S ⟨A,n,cap⟩ l)(c:Nat)(hc:c<=l.length):aV w S ⟨A,c,cap⟩ (l.take c):=by
 obtain⟨h1,h2,h3,h4⟩:=h;simp only at h1 h2 h3;refine⟨by show c=_;rw[abv];omega,by show c<=cap;omega,h3,fun i d hd=> ?_⟩;have hi:i<(l.take c).length:=(abA.1 hd).1;rw[abv]at hi;rw[List.getElem?_take,if_pos (by omega)]at hd;exact h4 i d hd
theorem aZ.full{w:AI}{B:Nat}{A:Option Addr}{n c:Nat}{l:List Ce}(h:aZ w B (.slice A n c) l)(h0:0<l.length):∃g,A=some ⟨g,0,none⟩/\B<=g/\g<w.heap.size/\n=l.length/\n<=c/\c<=abi:=by
 rcases h.2 with⟨-,h2⟩|⟨g,cap,cur,h1,h2,h3,h4,h5,-⟩
 ·omega
 ·injection h1 with e1 e2 e3
  subst e1 e2 e3;exact⟨g,rfl,h2,adu h3,rfl,h4,h5⟩
theorem aZ.NN{w:AI}{B g c n:Nat}{l:List Ce}(h:aZ w B (.slice (some ⟨g,0,none⟩) n c) l)(h0:0<l.length)(key:ByteArray):aZ (w.setCell ⟨g,0,none⟩ (.string key)) B (.slice (some ⟨g,0,none⟩) n c) (Nd.first false key l):=by
 obtain⟨g',e1,-,-,hn,-⟩:=h.full h0;subst hn;have h1:=(aed h 0 (.string key)).1;unfold aZ;cases l with
 | nil=>simp at h0
 | cons x t=>
  have e:(ay (x::t)).set 0 (.string key)=ay (Nd.first false key (x::t)):=by
   rw[show x::t=[x]++t from rfl,bR,fg];show _=ay ([{ x with key:=key }]++t);rw[bR,fg];rfl
  rw[e]at h1;rw[Nd.ij];exact h1
theorem aZ.Wh{w:AI}{B g c n:Nat}{l:List Ce}(h:aZ w B (.slice (some ⟨g,0,none⟩) n c) l)(h0:0<l.length):w.cell? ⟨g,0,none⟩=some (.string (l[0]'h0).key)/\w.frozen? ⟨g,0,none⟩=false:=by
 obtain⟨g',e1,-,-,hn,-⟩:=h.full h0;subst hn;refine⟨?_,adP h 0⟩;obtain⟨⟨rA,rn,rc⟩,hr,hc⟩:=h.row;simp only at hr;injection hr with e1 e2 e3;subst e1 e2 e3;obtain⟨b,o,hA,-,q0,-⟩:=hc.at 0 h0;injection hA with hA;injection hA with e1 e2;subst e1 e2;exact q0
theorem E6{α :Type}{k:Nat}{At:AI->(Nat->Prop)-> α ->List IS->Prop}{w:AI}{B E:Nat}{T:Nat->Prop}{v:IS}{ds:List α}{css:List (List IS)}(h3:w.ownsRow B E k v ds.length css.flatten)(h1:css.length=ds.length)(h2:∀c∈css,c.length=k)
  (h4:∀(i:Nat) (d: α) (c:List IS),ds[i]? =some d->css[i]? =some c->At w T d c) (hT:∀b,B<=b->b<w.heap.size->T b):∃r:Rw,v= .slice r.A r.n r.c/\fR k At w T r ds:=by
 obtain⟨hl,hr⟩:=h3;rcases hr with⟨rfl,hn⟩|⟨g,cap,cur,rfl,hb,hh,hc,hm,fu,ey⟩
 ·obtain rfl:ds=[]:=List.eq_nil_of_length_eq_zero hn
  exact⟨Rw.none,rfl,fR.nil _ _⟩
 ·refine⟨⟨some ⟨g,0,none⟩,ds.length,cap⟩,rfl,rfl,by show ds.length<=cap;omega,hm,fun i d hd=> ?_⟩
  have hi:i<ds.length:=(abA.1 hd).1;obtain⟨c,Vf⟩:∃c,css[i]? =some c:=⟨css[i]'(by omega),aaG (by omega)⟩;have F3:=h2 c (List.mem_of_getElem? Vf);refine⟨g,0,c,rfl,⟨hT g hb (adu hh),adu hh⟩,F3,fun j u hu=> ?_,h4 i d c hd Vf⟩;have hj:j<k:=by rw[<-F3];exact(abA.1 hu).1
  rw[cell_of_row w g _ cur _ (0,0) hh,abU];have hf:=iZ css h2 i c Vf j hj;rw[hu]at hf;have aI:i*k+j<css.flatten.length:=(abA.1 hf).1;rw[<-ey,List.getElem?_take_of_lt (by omega)]at hf;rw[<-acP];exact hf
theorem aV.sub{w:AI}{S T:Nat->Prop}{r:Rw}{l:List Ce}(h:aV w S r l)(hT:∀b,S b->b<w.heap.size->T b):aV w T r l:=h.keep (AS _) (fun _ _ _=>rfl) hT
theorem aZ.as{w:AI}{B:Nat}{A:Option Addr}{n c:Nat}{l:List Ce}(h:aZ w B (.slice A n c) l):aV w (fun b=>B<=b) ⟨A,n,c⟩ l:=by
 obtain⟨⟨rA,rn,rc⟩,hr,hc⟩:=h.row;simp only at hr;injection hr with e1 e2 e3;subst e1 e2 e3;exact hc
theorem IY:(prog.info? 319).map (fun i=>(i.zero,i.size,i.bytes))=some (some (.agg #[.string ByteArray.empty,.bool false,.slice none 0 0]),3,48):=by kernel_rfl
theorem ND{w:AI}{g:Nat}{vs:List IS}(h:Bk w g 319 vs.toArray)(hl:vs.length=3){B:Nat}(hB:B<=g):w.ownsRow B 319 3 (.slice (some ⟨g,0,none⟩) 1 1) 1 vs:=
 ⟨by rw[hl],.inr ⟨g,1,vs.toArray,rfl,hB,h,AS _,by unfold abi;omega,by simp[hl],by simp[abI,hl]⟩⟩
theorem NI{w:AI}{B:Nat}{T:Nat->Prop}{v:IS}{x y:Pt}{r q:Rw}(h:w.ownsRow B 319 3 v 2 ([.string x.key,.bool x.leaf,.slice r.A r.n r.c]++[.string y.key,.bool y.leaf,.slice q.A q.n q.c]))(hr:aV w T r x.cells)(hq:aV w T q y.cells)(hT:∀b,B<=b->b<w.heap.size->T b):
  ∃r:Rw,v= .slice r.A r.n r.c/\gy w T r [x,y]:=
 E6 (α :=Pt) (k:=3) (At:=UA) (T:=T) (ds:=[x,y]) (css:=[[.string x.key,.bool x.leaf,.slice r.A r.n r.c],[.string y.key,.bool y.leaf,.slice q.A q.n q.c]]) h rfl (fun c hc=>by
  rcases IT.1 hc with rfl|hc
  ·rfl
  ·obtain rfl:=List.mem_singleton.1 hc;rfl) (fun i d c hd hc=>by
  match i with
  | 0=>
   simp only[List.getElem?_cons_zero,acI]at hd hc;subst hd hc;exact⟨r,rfl,hr⟩
  | 1=>
   simp only[List.getElem?_cons_succ,List.getElem?_cons_zero,acI]at hd hc;subst hd hc;exact⟨q,rfl,hq⟩
  | i+2=>simp at hd) hT
theorem Jm(key:ByteArray)(leaf:Bool)(b o n cap:Nat)(l:List Ce)(B:Nat)(S:List Nat)(w:AI)(h:aV w (Cl B S) ⟨some ⟨b,o,none⟩,n,cap⟩ l)(hS:∀b∈S,b<w.heap.size)(hB:B<=w.heap.size)(hr:∀c∈l,Nd.aP leaf c=true)(hs:488<Nd.sum leaf l)(jw:Nd.sum leaf l<=750):
  aag prog 162 #[.string key,.bool leaf,.slice (some ⟨b,o,none⟩) n cap] w (mo B S (Tr.ct key leaf l) w):=by
 obtain⟨i0,hi,ef,dK,dY⟩:=info_parts IY;obtain⟨c1,c2,c3,c4⟩:=Nd.zR leaf l 223 (fun c hc=>(Nd.size_le (hr c hc)).2) (AS _) hs jw;have gr:=h;obtain⟨h1,h2,h3,-⟩:=gr;simp only at h1 h2 h3;subst h1;have CW:l.length<=10000:=by have:=Nd.e8 leaf l;omega
 have rh:Small l:=⟨CW,fun c hc=>by have:=Nd.jS (hr c hc);omega⟩;obtain⟨T,hT⟩:∃T,T=Nd.sum leaf l:=⟨_,rfl⟩;have HT:=sh hT;have hTb:T<=750:=by omega
 have hTl:488<T:=by omega
 have HH:=sh fun(W:AI) (hb:No w.heap.size w W)=>LY leaf ⟨some ⟨b,o,none⟩,l.length,cap⟩ l (Cl B S) W (h.below hb) (by omega) rh;obtain⟨c,hc⟩:∃c,c=Nd.cut leaf l:=⟨_,rfl⟩;have HC:=sh hc;rw[<-hc]at c1 c2 c3 c4 HH;have HL:=sh hr;have HR:=sh h;have HS:=sh hS;have qg:c<cap:=by omega
 have HD:=sh fun(W:AI) (hb:No w.heap.size w W)=>(show aag prog 221 #[.slice (some ⟨b,o+c*5,none⟩) (l.length-c) (cap-c)] W (iq (l.drop c) W) from
  my ⟨some ⟨b,o+c*5,none⟩,l.length-c,cap-c⟩ (l.drop c) (Cl B S) W ((h.below hb).drop c (by omega)) (by rw[abS];omega) (by rw[abS];omega))
 have HE:=sh fun(W:AI) (hb:No w.heap.size w W)=>(show aag prog 221 #[.slice (some ⟨b,o,none⟩) c cap] W (iq (l.take c) W) from
  my ⟨some ⟨b,o,none⟩,c,cap⟩ (l.take c) (Cl B S) W ((h.below hb).take c (by omega)) (by rw[abv];omega) (by rw[abv];omega))
 have F4:(l.drop c).length=l.length-c:=abS;have O6:(l.take c).length=c:=by rw[abv];omega
 obtain⟨d,hd⟩:∃d,d=l.drop c:=⟨_,rfl⟩;obtain⟨t,ht⟩:∃t,t=l.take c:=⟨_,rfl⟩;have D:=sh hd;have T':=sh ht;rw[<-hd]at F4 HD c4;rw[<-ht]at O6 HE c3;have qV:0<d.length:=by omega
 have zh:d.length<=10000:=by omega
 have V8:0<t.length:=by omega
 have Xc:=sh (show ∀c∈d,Nd.aP leaf c=true from fun x hx=>hr x (by rw[hd]at hx;exact List.mem_of_mem_drop hx));have hRt:=sh (show ∀c∈t,Nd.aP leaf c=true from fun x hx=>hr x (by rw[ht]at hx;exact List.mem_of_mem_take hx));have C3:=sh c3;have C4:=sh c4;have TL:=sh O6;have dC:cap<=9223372036854775807:=by unfold abi at h3;omega
 have zT:decide ((T:Int)<=488)=false:=decide_eq_false (by omega);clear h h3 hr hs hT hS jw rh c3 c4 hc hd ht F4 O6;go_enter func162,ntmps162
 go_wp2_with fail
 go_loopw [7,15] (fun u i wr=>∃(j y:Nat),i= .int .i64 j/\u= .int .i64 y/\j<=l.length/\y<=2+223*j/\Hid (y=2+((l.take j).map (Nd.size leaf)).sum)/\No w.heap.size w wr) (fun _ i _=>l.length-(intOf i).toNat)
 case atStart=>exact⟨0,2,rfl,rfl,abc _,by omega,sh (by simp),IN _ _⟩
 case round=>
  obtain⟨j,y,rfl,rfl,hj,hy,HY,eO⟩:=hrel;have fO:=sh eO;by_cases aI:j<l.length
  ·have z1:decide ((j:Int)<(l.length:Int))=true:=decide_eq_true (by omega)
   obtain⟨b',o',hA,hS,q0,q1,q2,q3,q4⟩:=(HR.out.below eO).at j aI;injection hA with hA;injection hA with e1 e2;subst e1 e2;have gH:=hS.2;have eW:=HL.out _ (abw aI);have cZ:=(Nd.size_le eW).2;have HC:=sh fun(W:AI)=>ob leaf l[j] W eW;have PB:=sh (Cn leaf l j aI);obtain⟨z,hz⟩:∃z,z=Nd.size leaf l[j]:=⟨_,rfl⟩;rw[<-hz]at HC PB cZ;obtain⟨x,hx⟩:∃x,x=l[j]:=⟨_,rfl⟩;rw[<-hx]at HC q0 q1 q2 q3 q4;clear hS eW hz hx eO;go_wp2_with (first
    | (go_at_call 219;go_must (refine(HC.out _).mono ?_);rintro e w2 ⟨rfl,az⟩;have bz:=sh (fO.out.trans ((bN az).2.2.2.2.2.2.1.mono fO.out.size));clear az)
    | fail)
   go_roundw
   case rel=>first|exact⟨j+1,y+z,by go_num,by go_num,by omega,by omega,sh (by rw[PB.out,HY.out];omega),bz.out⟩|((repeat apply acD);exact⟨⟨j+1,y+z,by go_num,by go_num,by omega,by omega,sh (by rw[PB.out,HY.out];omega),bz.out⟩,rfl⟩)
   case measure=>simp[intOf];omega
  ·have z1:decide ((j:Int)<(l.length:Int))=false:=decide_eq_false (by omega)
   obtain rfl:j=l.length:=by omega
   have hyT:y=T:=by rw[HY.out,HT.out,abI (AS _)];rfl
   subst hyT;clear eO HY hy;go_wp2_with (first
    | (go_at_call 220;go_must (refine(HH.out _ fO.out).mono ?_);rintro e w2 ⟨rfl,az⟩;have bz:=sh (fO.out.trans (az.mono fO.out.size));clear az)
    | fail)
   refine(HD.out _ bz.out).mono ?_;rintro e w3 ⟨aQ,A3,c5,rfl,aw⟩;obtain⟨g,rfl,Kg,tA,-,AE,zi⟩:=aw.full qV;have dt:=sh (bz.out.trans (aQ.mono bz.out.size));have jZ:=sh (aw.mono bz.out.size);obtain⟨O3,hf0⟩:=aw.Wh qV;obtain⟨ky,Mh⟩:∃ky,ky=(d[0]'qV).key:=⟨_,rfl⟩;rw[<-Mh]at O3;have R8:=sh Mh;clear aQ aw Mh;have hgs:w.heap.size<=g:=abE bz.out.size Kg;have fj:∃wx,No w.heap.size w wx/\aZ wx w.heap.size (.slice (some ⟨g,0,none⟩) d.length c5) (Nd.first leaf ⟨#[]⟩ d)/\wx=(if leaf then w3 else w3.setCell ⟨g,0,none⟩ (.string ⟨#[]⟩)):=by
    cases leaf
    ·exact⟨_,dt.out.setCell (p:=⟨g,0,none⟩) hgs _,jZ.out.NN qV _,rfl⟩
    ·exact⟨_,dt.out,jZ.out,rfl⟩
   obtain⟨wx,Qn,Ge,QW⟩:=fj;obtain⟨d2,mE⟩:∃d2,d2=Nd.first leaf ⟨#[]⟩ d:=⟨_,rfl⟩;have Vj:d2.length=d.length:=by rw[mE,Nd.ij]
   have jw:Nd.sum leaf d2<=488:=by rw[mE];exact abE (Nd.ni _ _) C4.out
   have om:∀c∈d2,Nd.aP leaf c=true:=by
    rw[mE];intro x hx;unfold Nd.first at hx;cases leaf
    ·cases hdd:d with
     | nil=>rw[hdd]at hx;simp at hx
     | cons y u=>
      rw[hdd]at hx;simp only[adh,if_false,IT]at hx;rcases hx with rfl|hx
      ·have h9:=Xc.out y (by rw[hdd];simp)
       simp only[Nd.aP,Nd.cy,adh,if_false,Bool.and_eq_true,decide_eq_true_eq,beq_iff_eq]at h9 |-;exact⟨⟨⟨⟨⟨by show (0:Nat)<=120;omega,h9.1.1.1.1.2⟩,h9.1.1.1.2⟩,h9.1.1.2⟩,h9.1.2⟩,h9.2⟩
      ·exact Xc.out x (by rw[hdd];simp[hx])
    ·exact Xc.out x hx
   rw[<-mE]at Ge;rw[<-Vj]at Ge;have pM:=sh (show Tr.ct key leaf l=[⟨key,leaf,t⟩,⟨ky,leaf,d2⟩]by
    unfold Tr.ct;rw[if_neg (by rw[<-HT.out];omega),<-HC.out,<-D.out,<-T'.out,<-mE];have e:(l.getD c Ce.zero).key=ky:=by
     have od:c<l.length:=by omega
     rw[R8.out,show l.getD c Ce.zero=l[c]'od by simp[List.getD,aaG od]]
     congr 1
     have h9:d[0]'qV=(l.drop c)[0]'(by rw[abS];omega):=by simp[D.out]
     rw[h9,List.getElem_drop];simp
    rw[e])
   have uK:=sh mE;have jH:=sh Qn;have Ue:=sh Ge;have YQ:=sh QW;have gM:=sh om;have j9:=sh jw;have WN:=sh Vj;clear mE Qn Ge QW om jw Vj Kg;cases leaf
   all_goals
    go_wp2_with fail
    have MN:=YQ.out;simp only[adh,if_false,if_true]at MN;rw[<-MN];clear MN;refine(HE.out _ jH.out).mono ?_;rintro e w4 ⟨b7,A4,c6,rfl,bM⟩;obtain⟨g4,rfl,afc,ali,-,alj,alk⟩:=bM.full V8;have fx:=sh (jH.out.trans (b7.mono jH.out.size));have xO:=sh (bM.mono jH.out.size);have Uv:=sh (Ue.out.below b7);clear b7 bM afc;have CJ:=sh (mL key _ ⟨some ⟨g4,0,none⟩,t.length,c6⟩ t _ w4 xO.out.as hRt.out C3.out);go_wp2_with fail
    refine CJ.out.mono ?_;rintro e w5 ⟨dO,g5,SL,rfl,uV⟩;have ou:=sh (fx.out.trans (dO.mono fx.out.size));have Yo:=sh (xO.out.below dO);have HX5:=sh (Uv.out.below dO);have sg:=sh uV;have afd:w.heap.size<=g5:=abE fx.out.size SL;have pE:=sh (mL ky _ ⟨some ⟨g,0,none⟩,d2.length,c5⟩ d2 _ w5 HX5.out.as gM.out j9.out);rw[WN.out]at pE;clear dO uV CJ SL;go_wp2_with fail
    refine pE.out.mono ?_;rintro e w6 ⟨gS,g6,hg6,rfl,D6⟩;have TJ:=sh (ou.out.trans (gS.mono ou.out.size));have WX:=sh (Yo.out.below gS);have HX6:=sh (HX5.out.below gS);have zc:=sh D6;have alm:w.heap.size<=g6:=abE ou.out.size hg6;have HG5:=sh (af sg.out gS);have rM:=sh (ND (af sg.out gS) rfl afd);have HN6:=sh (show ∀(j:Nat) (u:IS),[Value.string ky,.bool _,.slice (some ⟨g,0,none⟩) d.length c5][j]? =some u->w6.cell? ((⟨g6,0,none⟩:Addr).add j)=some u from fun j u hu=>by
     rw[bI,abU,D6.cell j,<-acP];exact hu)
    clear gS D6 pE hg6;have aeJ:=TJ.out.size;go_wp2_with (at_builtin;refine wpList_append_own _ rfl (.tmp 54) (.tmp 58) 250 rfl w.heap.size 319 i0 _ 3 48 underlying250 hi ef dK dY rfl (by omega) (.slice (some ⟨g5,0,none⟩) 1 1) 1 _ rfl rM.out ⟨g6,0,none⟩ 1 1 _ rfl rfl HN6.out (by simp[Value.oneCell']) (by unfold abi;omega) (by omega) aeJ ?_;intro v' w7 AR yu D5)
    have hB7:No w.heap.size w w7:=((ah.ae TJ.out []).grown yu (fun k hk=> .inr (by
     have:g5=k:=by simpa[Value.ownBlock]using hk
     omega))).below (AS _) (by simp)
    have hO7:aZ w7 w.heap.size (.slice (some ⟨g4,0,none⟩) t.length c6) t:=World.ownsRow.kept WX.out yu (.inr (bP WX.out HG5.out (by decide)));have hX7:aZ w7 w.heap.size (.slice (some ⟨g,0,none⟩) d2.length c5) d2:=World.ownsRow.kept HX6.out yu (.inr (bP HX6.out HG5.out (by decide)));rw[WN.out]at hX7;have hT:∀b,w.heap.size<=b->b<w7.heap.size->Cl B S b:=fun b h1 _=>⟨by omega,fun hh=>by have:=HS.out b hh;omega⟩;obtain⟨⟨rA,rn,rc⟩,Gk,tG⟩:=NI (x:=⟨key,_,t⟩) (y:=⟨ky,_,d2⟩) (r:=⟨some ⟨g4,0,none⟩,t.length,c6⟩) (q:=⟨some ⟨g,0,none⟩,d.length,c5⟩) AR (hO7.as.sub hT) (hX7.as.sub hT) hT;simp only at Gk;subst Gk;clear AR yu D5;go_ret
    exact⟨hB7,⟨rA,rn,rc⟩,rfl,by rw[pM.out];exact tG⟩
theorem il(key:ByteArray)(leaf:Bool)(r:Rw)(l:List Ce)(B:Nat)(S:List Nat)(w:AI)(h:aV w (Cl B S) r l)(hS:∀b∈S,b<w.heap.size)(hB:B<=w.heap.size)(hr:∀c∈l,Nd.aP leaf c=true)(hs:Nd.sum leaf l<=750):
  aag prog 162 #[.string key,.bool leaf,.slice r.A r.n r.c] w (mo B S (Tr.ct key leaf l) w):=by
 by_cases hf:Nd.sum leaf l<=488
 ·refine(mL key leaf r l (Cl B S) w h hr hf).mono ?_
  rintro e w1 ⟨hb,g,hg,rfl,hk⟩;refine⟨hb,⟨some ⟨g,0,none⟩,1,1⟩,rfl,?_⟩;unfold Tr.ct;rw[if_pos hf];exact gy.lit hk ⟨by omega,fun hh=>by have:=hS g hh;omega⟩ (h.below hb)
 ·have h0:0<l.length:=by
   cases l with
   | nil=>simp[Nd.sum]at hf
   | cons c l=>simp
  obtain⟨A,n,cap⟩:=r;obtain⟨b,o,hA,-⟩:=h.at 0 h0;simp only at hA;subst hA;exact Jm key leaf b o n cap l B S w h hS hB hr (by omega) hs
end Go.Proofs.YtjbcbnemdhbhbaaGreatDoor
