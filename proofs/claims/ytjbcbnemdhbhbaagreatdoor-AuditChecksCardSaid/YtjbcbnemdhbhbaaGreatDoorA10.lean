import Derived.Test.YtjbcbnemdhbhbaaGreatDoorA1
import Derived.Maps.RangeWalk
import Derived.Maps.OwnOps
import Derived.Test.YtjbcbnemdhbhbaaGreatDoorA9
import Derived.StringKeys
set_option maxRecDepth 100000
set_option linter.unusedVariables false
set_option linter.unusedSimpArgs false
set_option maxHeartbeats 40000000
open ByteArray renaming empty→abY
open Go renaming Calls→aaf,Program→afi,TypeId→abS,Value→No,World→AI,maxLen→abj,wpList→agS
open Go.Instr renaming lookup→acR
open Go.Lib renaming hid→sh
open Go.Lit renaming int→agx
open Go.Maps renaming has→afE,has_put_other→ahd,int_keyed→afe
open Go.WideMaps renaming keyOf_string_mk→agX
open Int renaming toNat_natCast→acF
open List renaming not_mem_nil→acu
namespace Go.Proofs.YtjbcbnemdhbhbaaGreatDoor
open Go.Proofs.Tryz
open Go.Maps (Keyed)
def vR (v:No):Option (DataW No×List MemPlace):=some (.held v,[])
def Dt (D:DataW No) (V:Int->Option No):Prop:=
 (∀i v,V i=some v->(agx .i64 i).wf=true/\afE D (.int .i64 i)=true/\∀z,D.atKey (.int .i64 i) z= .held v)/\(∀kl,afE D kl=true->∃i v,V i=some v/\kl= .int .i64 i)
def IMap (P:afi) (k:abS) (w:AI) (m nn:Nat) (V:Int->Option No):Prop:=∃D:DataW No,w.ownsMap P k vR m nn D/\Dt D V
section
variable {P:afi} {k:abS} {w:AI} {m nn:Nat} {V:Int->Option No}
theorem C0{i:Int}(h:(-9223372036854775808:Int)<=i)(h1:i<=9223372036854775807):(agx .i64 i).wf=true:=by
 simp[Lit.wf,IntKind.min,IntKind.max,IntKind.bits,IntKind.signed];omega
theorem IMap.lt(h:IMap P k w m nn V):m<w.heap.size:=by obtain⟨D,h,_⟩:=h;exact h.lt
theorem IMap.of_heap{w':AI}(h:IMap P k w m nn V)(hh:w'.heap[m]? =w.heap[m]?):IMap P k w' m nn V:=by
 obtain⟨D,⟨es,clock,hb,r⟩,ha⟩:=h;exact⟨D,⟨es,clock,hh.trans hb,r⟩,ha⟩
theorem IMap.off{S:List Nat}{w':AI}(h:IMap P k w m nn V)(ho:ah S w w')(hm:m∉S):IMap P k w' m nn V:=h.of_heap (ho.block m h.lt hm)
theorem IMap.mono(h:IMap P k w m nn V){n':Nat}(hn:nn<=n'):IMap P k w m n' V:=by
 obtain⟨D,h,ha⟩:=h;exact⟨D,h.mono hn,ha⟩
theorem IMap.made(w:AI)(P:afi)(k:abS):IMap P k (w.alloc (.map #[] 0)) w.heap.size 0 (fun _=>none):=
 ⟨.map [],World.ownsMap_made w P k vR,fun i v h=>(by cases h),fun kl h=>(by simp[afE]at h)⟩
theorem IMap.kP{g:Nat}{t:abS}{cs:Array No}(h:IMap P k w m nn V)(hb:Bk w g t cs):g≠m:=by
 rintro rfl;obtain⟨D,⟨es,clock,hh,_⟩,_⟩:=h;unfold Bk at hb;rw[hb]at hh;cases hh
theorem IMap.look{t e:abS}{z:No}(h:IMap P k w m nn V)(hk:P.underlying k=some (.int .i64))(ht:P.underlying t=some (.map k e))(hz:(zeroValue e).run P w= .ok z w){i:Int}(hi:(agx .i64 i).wf=true):
  (acR t (.map (some m)) (.int .i64 i) false).run P w= .ok ((V i).getD z) w:=by
 obtain⟨D,⟨es,clock,hb,F,hs,rfl⟩,ha⟩:=h;have eV:=Maps.keyOf_int_mk hk hi;rcases Maps.fit_look false (afe hk) ht hz hb F eV with⟨bZ,_,cG⟩|⟨e0,y,_,_,bZ,L9,cG,_⟩
 ·cases hv:V i with
  | none=>simpa using bZ
  | some v=>
   have:=(ha.1 i v hv).2.2 .nil;rw[cG .nil]at this;cases this
 ·cases hv:V i with
  | none=>
   exfalso;have h1:=Maps.has_true_of_atKey cG;obtain⟨j,v,hj,he⟩:=ha.2 _ h1;injection he with _ he;subst he;rw[hv]at hj;cases hj
  | some v=>
   have h1:=(ha.1 i v hv).2.2 .nil;rw[cG .nil]at h1;unfold vR at L9;injection L9 with L9;subst L9;injection h1 with h1;subst h1;simpa using bZ
theorem IMap.update{t e:abS}(h:IMap P k w m nn V)(hk:P.underlying k=some (.int .i64))(ht:P.underlying t=some (.map k e))(hn:nn<abj){i:Int}(hi:(agx .i64 i).wf=true)(v:No):
  ∃w',(Instr.mapUpdate t (.map (some m)) (.int .i64 i) v).run P w= .ok () w'/\IMap P k w' m (nn+1) (fun j=>if j=i then some v else V j)/\w.grownBy w' (some m):=by
 obtain⟨D,aq,ha⟩:=h;have eV:=Maps.keyOf_int_mk hk hi;have Bs:=aq.isMap;have iV:WideAt.IsKeyLit (agx .i64 i):=(afe hk).key eV;obtain⟨w',bZ,lU,hg⟩:=aq.update (afe hk) ht hn (val:=v) eV rfl;refine⟨w',bZ,⟨_,lU,?_,?_⟩,hg⟩
 ·intro j u hj
  have hj:(if j=i then some v else V j)=some u:=hj;by_cases KB:j=i
  ·subst KB
   rw[if_pos rfl]at hj;injection hj with hj;subst hj;exact⟨hi,Maps.has_put_same Bs iV _,fun z=>Maps.atKey_put_same Bs iV _ z⟩
  ·rw[if_neg KB]at hj
   obtain⟨h1,h2,h3⟩:=ha.1 j u hj;have bM:agx .i64 j≠agx .i64 i:=fun e=>KB (by injection e);exact⟨h1,by rw[ahd bM];exact h2,fun z=>by rw[Maps.atKey_put_other bM];exact h3 z⟩
 ·intro kl Ms
  by_cases SW:kl=agx .i64 i
  ·exact⟨i,v,if_pos rfl,SW⟩
  ·rw[ahd SW]at Ms
   obtain⟨j,u,hj,rfl⟩:=ha.2 kl Ms;refine⟨j,u,?_,rfl⟩;have KB:j≠i:=fun e=>SW (by rw[e]);show (if j=i then some v else V j)=some u;rw[if_neg KB];exact hj
def ed (P:afi) (k:abS) (w:AI) (m r nn:Nat) (V:Int->Option No) (left:Int->Bool) (pM:Nat):Prop:=
 ∃(D:DataW No) (lf:Lit->Bool),w.ranges P k vR m r nn D lf pM/\Dt D V/\∀i,lf (.int .i64 i)=left i
theorem ed.of_heap{w':AI}{r pM:Nat}{left:Int->Bool}(h:ed P k w m r nn V left pM)(hm:w'.heap[m]? =w.heap[m]?)(hr:w'.heap[r]? =w.heap[r]?):ed P k w' m r nn V left pM:=by
 obtain⟨D,lf,⟨es,clock,since,seen,c0,hb,F,hs,hD,iT,rest⟩,ha,hl⟩:=h;exact⟨D,lf,⟨es,clock,since,seen,c0,hm.trans hb,F,hs,hD,hr.trans iT,rest⟩,ha,hl⟩
theorem ed.left_eq{r pM:Nat}{left:Int->Bool}(h:ed P k w m r nn V left pM):w.rangeLeft m r=pM:=by
 obtain⟨D,lf,h,_⟩:=h;exact h.left_eq
theorem ed.map{r pM:Nat}{left:Int->Bool}(h:ed P k w m r nn V left pM):IMap P k w m nn V:=by
 obtain⟨D,lf,h,ha,_⟩:=h;exact⟨D,h.owns,ha⟩
theorem ed.lt{r pM:Nat}{left:Int->Bool}(h:ed P k w m r nn V left pM):r<w.heap.size:=by
 obtain⟨D,lf,h,ha,_⟩:=h;exact h.lt
theorem ed.ne{r pM:Nat}{left:Int->Bool}(h:ed P k w m r nn V left pM):r≠m:=by
 obtain⟨D,lf,h,ha,_⟩:=h;exact h.ne
theorem ed.kP{r pM g:Nat}{t:abS}{cs:Array No}{left:Int->Bool}(h:ed P k w m r nn V left pM)(hb:Bk w g t cs):g≠r:=by
 rintro rfl;obtain⟨D,lf,⟨es,clock,since,seen,c0,_,_,_,_,iT,_⟩,_⟩:=h;unfold Bk at hb;rw[hb]at iT;cases iT
theorem eO{D:DataW No}(ha:Dt D V)(i:Int):afE D (.int .i64 i)=(V i).isSome:=by
 cases hv:V i with
 | some v=>rw[(ha.1 i v hv).2.1];rfl
 | none=>
  cases hh:afE D (.int .i64 i)with
  | false=>rfl
  | true=>
   obtain⟨j,v,hj,he⟩:=ha.2 _ hh;injection he with _ he;subst he;rw[hv]at hj;cases hj
theorem pH{ops:Array Oper}{rest:List Oper}{o:Oper}{a:Act}{Q:Exit->Act->AI->Prop}(hg:o.guard=none)(x:Operand)(t:abS)(MK:o.op=Op.range t x)(e:abS)(hk:P.underlying k=some (.int .i64))
  (ht:P.underlying t=some (.map k e)) (hm:a.eval x= .map (some m)) (h:IMap P k w m nn V)
  (hK:∀w' pM,ed P k w' m w.heap.size nn V (fun i=>(V i).isSome) pM->w.grownBy w' none->w'.heap.size=w.heap.size+1->agS P ops Q rest (a.put o.dst (.pointer (some ⟨w.heap.size,0,none⟩))) w'):
  agS P ops Q (o::rest) a w:=by
 obtain⟨D,aq,ha⟩:=h;exact wpList_range_own w hg x t MK k e (afe hk) ht vR m nn D hm aq (fun w' h1 h2 h3=>hK w' _ ⟨D,_,h1,ha,eO ha⟩ h2 h3)
theorem qO{ops:Array Oper}{rest:List Oper}{o:Oper}{a:Act}{Q:Exit->Act->AI->Prop}(hg:o.guard=none)(it:Operand)(MK:o.op=Op.next it false)(hk:P.underlying k=some (.int .i64))
  {r pM:Nat} {left:Int->Bool} (hit:a.eval it= .pointer (some ⟨r,0,none⟩)) (h:ed P k w m r nn V left pM)
  (Zc:(∀i,left i=false)->agS P ops Q rest (a.put o.dst (.tuple #[.bool false])) w)
  (Zi:∀(i:Int) (v:No) (w':AI) (Qj:Nat),V i=some v->left i=true->ed P k w' m r nn V (fun j=>left j&& !decide (j=i)) Qj->Qj<pM->
   w.grownBy w' (some r)->w'.heap.size=w.heap.size->(Instr.entry (.pointer (some ⟨r,0,none⟩))).run P w'= .ok (.tuple #[.int .i64 i,v]) w'->agS P ops Q rest (a.put o.dst (.tuple #[.bool true,.int .i64 i,v])) w'):
  agS P ops Q (o::rest) a w:=by
 obtain⟨D,lf,hr,ha,hl⟩:=h;refine wpList_next_ranges w hg it MK k (afe hk) vR (Value.int .i64) (fun v=>v) (fun key kl eV=>by obtain⟨x,rfl,_⟩:=Maps.keyOf_int_inv hk eV;exact⟨x,rfl⟩) (fun v y hv=>⟨v,rfl⟩) m r nn D lf pM hit hr ?_ ?_
 ·intro _ h2
  exact Zc (fun i=>by rw[<-hl];exact h2 _)
 ·intro x c kl y w' Qj eV GA hv cG su aH Mn cZ Ei
  obtain⟨x',ex,rfl,Rb⟩:=Maps.keyOf_int_inv hk eV;cases ex
  unfold vR at hv;injection hv with hv;subst hv;obtain⟨j,v,hj,he⟩:=ha.2 _ (Maps.has_true_of_atKey cG);injection he with _ he;subst he;have h3:=(ha.1 _ v hj).2.2 .nil;rw[cG .nil]at h3;injection h3 with h3;subst h3;refine Zi _ _ w' Qj hj (by rw[<-hl];exact GA) ⟨D,_,su,ha,fun i=> ?_⟩ aH Mn cZ Ei;show (lf (.int .i64 i)&& !(agx .i64 i).sameKey (.int .i64 x))=_;rw[hl]
  congr 2
  have iV:WideAt.IsKeyLit (agx .i64 x):=(afe hk).key eV;rw[Bool.eq_iff_iff,WideAt.sameKey_iff iV];simp
end
end Go.Proofs.YtjbcbnemdhbhbaaGreatDoor
namespace Go.Proofs.YtjbcbnemdhbhbaaGreatDoor
open Go.Proofs.Tryz
open Go.RowKit
open Go.PlainAid
theorem Bk.KI{w:AI}{g:Nat}{t:abS}{c0 c1 c2 c3 c4 c5:No}(h:Bk w g t #[c0,c1,c2,c3,c4,c5]):
  w.cell? ⟨g,0,none⟩=some c0/\w.cell? ⟨g,1,none⟩=some c1/\w.cell? ⟨g,2,none⟩=some c2/\w.cell? ⟨g,3,none⟩=some c3/\w.cell? ⟨g,4,none⟩=some c4/\w.cell? ⟨g,5,none⟩=some c5:=
 ⟨by simpa using h.cell 0,by simpa using h.cell 1,by simpa using h.cell 2,by simpa using h.cell 3,by simpa using h.cell 4,by simpa using h.cell 5⟩
abbrev bV (l n:Nat) (m:Nat) (off:Bool) (cy steps writes:Int):Array No:=
 #[.slice (some ⟨l,0,none⟩) n n,.map (some m),.bool off,.int .i64 cy,.int .i64 steps,.int .i64 writes]
def strs (l:List ByteArray):List No:=l.map Value.string
theorem Ox(l:List ByteArray):∀u∈strs l,u.oneCell'=true:=by
 intro u hu;obtain⟨x,_,rfl⟩:=List.mem_map.1 hu;rfl
def dr (row:List (Nat×ByteArray)) (B C:Nat->Nat) (i:Int):Option No:=
 if 0<=i/\bc row i.toNat≠[]then some (.slice (some ⟨B i.toNat,0,none⟩) (bc row i.toNat).length (C i.toNat))else none
structure DevAt (w:AI) (g:Nat) (S:List Nat) (D:DevS) (l m nn:Nat) (B C:Nat->Nat):Prop where
 ok:D.Ok
 cells:Bk w g 156 (bV l D.sec.length m D.off D.cy D.steps D.writes)
 sec:Bk w l 9 (strs D.sec).toArray
 map:IMap prog 3 w m nn (dr D.row B C)
 nn:(nn:Int)<=D.writes
 own:∀i,D.waits i≠[]->w.ownsRow 0 9 1 (.slice (some ⟨B i,0,none⟩) (D.waits i).length (C i)) (D.waits i).length (strs (D.waits i))
 apart:∀i j,D.waits i≠[]->D.waits j≠[]->B i=B j->i=j
 nP:∀i,D.waits i≠[]->B i≠l
 xN:g∈S/\l∈S/\m∈S/\∀i,D.waits i≠[]->B i∈S
 old:∀b∈S,b<w.heap.size
def Dev (w:AI) (g:Nat) (S:List Nat) (D:DevS):Prop:=∃l m nn B C,DevAt w g S D l m nn B C
theorem DevAt.off{w w':AI}{g:Nat}{S T:List Nat}{D:DevS}{l m nn:Nat}{B C:Nat->Nat}(h:DevAt w g S D l m nn B C)(ho:ah T w w')(hT:∀b∈S,b∉T):DevAt w' g S D l m nn B C:=by
 obtain⟨i1,i2,i3,i4⟩:=h.xN;exact⟨h.ok,ho.bk h.cells (hT _ i1),ho.bk h.sec (hT _ i2),h.map.off ho (hT _ i3),h.nn,fun i hi=>ho.own (h.own i hi) (fun b hb=>by
  have:b=B i:=by simpa[Value.ownBlock]using hb.symm
  subst this;exact hT _ (i4 i hi)),h.apart,h.nP,h.xN,fun b hb=>Nat.lt_of_lt_of_le (h.old b hb) ho.size⟩
theorem Dev.off{w w':AI}{g:Nat}{S T:List Nat}{D:DevS}(h:Dev w g S D)(ho:ah T w w')(hT:∀b∈S,b∉T):Dev w' g S D:=by
 obtain⟨l,m,nn,B,C,h⟩:=h;exact⟨l,m,nn,B,C,h.off ho hT⟩
theorem Dev.ok{w:AI}{g:Nat}{S:List Nat}{D:DevS}(h:Dev w g S D):D.Ok:=by
 obtain⟨l,m,nn,B,C,h⟩:=h;exact h.ok
theorem Dev.old{w:AI}{g:Nat}{S:List Nat}{D:DevS}(h:Dev w g S D):∀b∈S,b<w.heap.size:=by
 obtain⟨l,m,nn,B,C,h⟩:=h;exact h.old
theorem Dev.mem{w:AI}{g:Nat}{S:List Nat}{D:DevS}(h:Dev w g S D):g∈S:=by
 obtain⟨l,m,nn,B,C,h⟩:=h;exact h.xN.1
theorem Dev.below{w w':AI}{g:Nat}{S:List Nat}{D:DevS}(h:Dev w g S D)(hb:Below w.heap.size w w'):Dev w' g S D:=h.off (ah.af hb []) (fun _ _=>acu)
theorem Dev.drewN{w:AI}{g:Nat}{S:List Nat}{D:DevS}(h:Dev w g S D)(n:Nat):Dev (w.drewN n) g S D:=h.off ((ah.refl [] w).drewN n) (fun _ _=>acu)
def aj (w:AI) (S S':List Nat):Prop:=∀b∈S',b∈S\/w.heap.size<=b
theorem aj.refl(w:AI)(S:List Nat):aj w S S:=fun _ h=> .inl h
theorem aj.trans{w w':AI}{S S' S'':List Nat}(h:aj w S S')(k:aj w' S' S'')(hs:w.heap.size<=w'.heap.size):aj w S S'':=fun b hb=>by
 rcases k b hb with hb|hb
 ·exact h b hb
 ·exact .inr (Nat.le_trans hs hb)
theorem ah.fresh{S S':List Nat}{a b c:AI}(h:ah S a b)(k:ah S' b c)(hf:aj a S S'):ah S a c:=h.then k hf
theorem aj.apart{w:AI}{S S' T:List Nat}(h:aj w S S')(ha:∀b∈T,b∉S)(hT:∀b∈T,b<w.heap.size):∀b∈T,b∉S':=fun b hb hs=>by
 rcases h b hs with h1|h1
 ·exact ha b hb h1
 ·have:=hT b hb;omega
def gv (g:Nat) (S:List Nat) (D':DevS) (r:No) (w:AI) (e:Ending) (w':AI):Prop:=
 e= .returned r/\∃S',Dev w' g S' D'/\ah S w w'/\aj w S S'
abbrev ptr (g:Nat):No:= .pointer (some ⟨g,0,none⟩)
theorem xp{g:Nat}{S:List Nat}{D:DevS}{w:AI}(hd:Dev w g S D):
  aaf prog 151 #[ptr g] w fun e w'=>e= .returned (.int .i64 (D.sec.length:Int))/\w=w':=by
 obtain⟨l,m,nn,B,C,h⟩:=hd;obtain⟨c0,c1,c2,c3,c4,c5⟩:=h.cells.KI;clear h;go_enter func151,ntmps151
 go_wp2_with fail
 go_ret
 exact⟨rfl,rfl⟩
theorem It(w:AI):aaf prog 151 #[.pointer none] w fun e w'=>e= .returned (.int .i64 0)/\w=w':=by
 go_enter func151,ntmps151
 go_wp2_with fail
 go_ret
 exact⟨rfl,rfl⟩
def UB (q:Bool) (w:AI) (e:Ending) (w':AI):Prop:=e= .returned (.bool q)/\w=w'
theorem jb{g:Nat}{S:List Nat}{D:DevS}{w:AI}(hd:Dev w g S D)(i:Int):
  aaf prog 178 #[ptr g,.int .i64 i] w (UB (D.ny i) w):=by
 obtain⟨l,m,nn,B,C,h⟩:=hd;obtain⟨c0,c1,c2,c3,c4,c5⟩:=h.cells.KI;clear h;have fy:(decide (0<=i)=false/\Hid (D.ny i=false))\/(0<=i/\decide (0<=i)=true/\decide (i<(D.sec.length:Int))=false/\Hid (D.ny i=false))\/(0<=i/\decide (0<=i)=true/\decide (i<(D.sec.length:Int))=true/\Hid (D.ny i=true)):=by
  unfold DevS.ny;by_cases h1:0<=i
  ·by_cases h2:i<(D.sec.length:Int)
   ·exact .inr (.inr ⟨h1,by simpa using h1,by simpa using h2,show _=_ by simp;omega⟩)
   ·exact .inr (.inl ⟨h1,by simpa using h1,by simpa using h2,show _=_ by simp;omega⟩)
  ·exact .inl ⟨by simpa using h1,show _=_ by simp;omega⟩
 rcases fy with⟨q1,HB⟩|⟨h0,q1,q2,HB⟩|⟨h0,q1,q2,HB⟩;all_goals
  go_enter func178,ntmps178
  go_wp2_with fail
  go_ret
  exact⟨by rw[HB.out];rfl,rfl⟩
def lA (g:Nat) (q:Bool) (cs:Array No) (w:AI) (e:Ending) (w':AI):Prop:=e= .returned (.bool q)/\Bk w' g 156 cs/\ah [g] w w'
theorem Iu(g l n m:Nat)(cy steps writes:Int)(w:AI)(h:Bk w g 156 (bV l n m true cy steps writes)):
  aaf prog 173 #[ptr g] w (lA g false (bV l n m true cy steps writes) w):=by
 have HB:=sh h;obtain⟨c0,c1,c2,c3,c4,c5⟩:=h.KI;clear h;go_enter func173,ntmps173
 go_wp2_with fail
 go_ret
 exact⟨rfl,HB.out,ah.refl _ _⟩
theorem Iv(g l n m:Nat)(steps writes:Int)(w:AI)(h:Bk w g 156 (bV l n m false 1 steps writes))(h1:0<=steps)(h2:steps<=1000000000):
  aaf prog 173 #[ptr g] w (lA g false (bV l n m true 0 (steps+1) writes) w):=by
 have HB:=sh h;obtain⟨c0,c1,c2,c3,c4,c5⟩:=h.KI;have g2:=h.frozen 2;have g3:=h.frozen 3;have g4:=h.frozen 4;clear h;go_enter func173,ntmps173
 go_wp2_with fail
 go_ret
 exact⟨rfl,((HB.out.put 4 _).put 2 _).put 3 _,(((ah.refl _ _).setCell (.inl (by simp)) _).setCell (.inl (by simp)) _).setCell (.inl (by simp)) _⟩
theorem DZ(g l n m:Nat)(steps writes:Int)(w:AI)(h:Bk w g 156 (bV l n m false 0 steps writes))(h1:0<=steps)(h2:steps<=1000000000):
  aaf prog 173 #[ptr g] w (lA g true (bV l n m false 0 (steps+1) writes) w):=by
 have HB:=sh h;obtain⟨c0,c1,c2,c3,c4,c5⟩:=h.KI;have g3:=h.frozen 3;have g4:=h.frozen 4;clear h;go_enter func173,ntmps173
 go_wp2_with fail
 go_ret
 exact⟨rfl,(HB.out.put 4 _).put 3 _,((ah.refl _ _).setCell (.inl (by simp)) _).setCell (.inl (by simp)) _⟩
theorem DY(g l n m:Nat)(cy steps writes:Int)(w:AI)(h:Bk w g 156 (bV l n m false cy steps writes))(h1:0<=steps)(h2:steps<=1000000000)(f0:2<=cy)(f1:cy<=9223372036854775807):
  aaf prog 173 #[ptr g] w (lA g true (bV l n m false (cy-1) (steps+1) writes) w):=by
 have HB:=sh h;obtain⟨c0,c1,c2,c3,c4,c5⟩:=h.KI;have g3:=h.frozen 3;have g4:=h.frozen 4;have q1:(cy==1)=false:=by simp;omega
 have q2:decide (cy-1<0)=false:=by simp;omega
 have q3:(0:Int)<=cy-1:=by omega
 have q4:decide ((0:Int)<cy-1)=true:=by simp;omega
 have q5:IntKind.i64.wrap (cy-1)=cy-1:=IntWalk.i64_in _ (by omega);have q6:max 0 (cy-1)=cy-1:=by omega
 clear h;go_enter func173,ntmps173
 go_wp2_with fail
 go_ret
 exact⟨rfl,(HB.out.put 4 _).put 3 _,((ah.refl _ _).setCell (.inl (by simp)) _).setCell (.inl (by simp)) _⟩
theorem mG{g l n m:Nat}{D:DevS}{w:AI}(h:Bk w g 156 (bV l n m D.off D.cy D.steps D.writes))(hk:D.Ok)(hs:D.steps<=1000000000):
  aaf prog 173 #[ptr g] w (lA g D.ee (bV l n m D.al.off D.al.cy D.al.steps D.al.writes) w):=by
 have h0:=hk.WK;have f0:=hk.Gl;have f1:=hk.AZ;obtain⟨sec,row,off,cy,steps,writes⟩:=D;unfold DevS.ee DevS.al;simp only at *;cases off with
 | true=>exact Iu g l n m cy steps writes w h
 | false=>
  by_cases c1:cy=1
  ·subst c1;exact Iv g l n m steps writes w h h0 hs
  ·by_cases c2:cy=0
   ·subst c2;exact DZ g l n m steps writes w h h0 hs
   ·have e1:(cy==1)=false:=by simpa using c1
    have e2:max 0 (cy-1)=cy-1:=by omega
    simp only[e1,e2];exact DY g l n m cy steps writes w h h0 hs (by omega) f1
theorem yp(w:AI):(zeroValue 72).run prog w= .ok (.slice none 0 0) w:=by kernel_rfl
theorem B6{w:AI}{g:Nat}{S:List Nat}{D:DevS}{l m nn:Nat}{B C:Nat->Nat}(h:DevAt w g S D l m nn B C)(k:Nat)(hk:k<=100000):
  ∃(A:Option Addr) (c:Nat),(acR 154 (.map (some m)) (.int .i64 (k:Int)) false).run prog w= .ok (.slice A (D.waits k).length c) w/\Sl w A (strs (D.waits k))/\
   w.ownsRow 0 9 1 (.slice A (D.waits k).length c) (D.waits k).length (strs (D.waits k))/\(Value.slice A (D.waits k).length c)=(dr D.row B C (k:Int)).getD (.slice none 0 0):=by
 have h1:=h.map.look (t:=154) underlying3 underlying154 (yp w) (i:=(k:Int)) (C0 (by omega) (by omega));by_cases hn:D.waits k=[]
 ·refine⟨none,0,?_,?_,?_,?_⟩
  ·rw[h1]
   unfold dr;rw[acF,if_neg (fun e=>e.2 hn),hn];rfl
  ·rw[hn];exact Sl.nil _ _
  ·rw[hn];exact⟨rfl,.inl ⟨rfl,rfl⟩⟩
  ·unfold dr;rw[acF,if_neg (fun e=>e.2 hn),hn];rfl
 ·have ho:=h.own k hn
  refine⟨some ⟨B k,0,none⟩,C k,?_,Sl.dh ho,ho,by unfold dr;rw[acF,if_pos ⟨by omega,hn⟩];rfl⟩;rw[h1];unfold dr;rw[acF,if_pos ⟨by omega,hn⟩];rfl
def oJ (s:ByteArray) (e:Int) (w:AI) (en:Ending) (w':AI):Prop:=en= .returned (.tuple #[.string s,.int .i64 e])/\w=w'
theorem jr{s s':ByteArray}{e e':Int}{w:AI}(h:s=s')(h':e=e'):oJ s e w (.returned (.tuple #[.string s',.int .i64 e'])) w:=by subst h;subst h';exact⟨rfl,rfl⟩
theorem Ir{g:Nat}{S:List Nat}{D:DevS}{w:AI}(hd:Dev w g S D)(i:Int)(hb:D.steps<=1000000000):
  aaf prog 152 #[ptr g,.int .i64 i] w (oJ (D.read i).1 (D.read i).2 w):=by
 have qZ:=sh hd;obtain⟨l,m,nn,B,C,h⟩:=hd;obtain⟨c0,c1,c2,c3,c4,c5⟩:=h.cells.KI;cases dw:D.ny i with
 | false=>
  have HL:Hid (D.read i=(abY,1)):=show _=_ by unfold DevS.read;rw[dw];rfl
  clear h;go_enter func152,ntmps152
  go_wp2_with (go_at_call 178;refine(jb qZ.out i).mono ?_;rintro e w2 ⟨rfl,rfl⟩;rw[dw])
  go_ret2
  exact jr (by rw[HL.out];rfl) (by rw[HL.out])
 | true=>
  cases bF:D.off with
  | true=>
   have HL:Hid (D.read i=(abY,6)):=show _=_ by unfold DevS.read;rw[dw,bF];rfl
   rw[bF]at c2;clear h bF;go_enter func152,ntmps152
   go_wp2_with (go_at_call 178;refine(jb qZ.out i).mono ?_;rintro e w2 ⟨rfl,rfl⟩;rw[dw])
   go_ret2
   exact jr (by rw[HL.out];rfl) (by rw[HL.out])
  | false=>
   obtain⟨i0,i1⟩:=DevS.gM.1 dw;obtain⟨k,rfl⟩:∃k:Nat,i=(k:Int):=⟨i.toNat,by omega⟩;have hk:k<D.sec.length:=by omega
   have HL:Hid (D.read (k:Int)=(D.aF k,0)):=show _=_ by unfold DevS.read;rw[dw,bF,if_pos rfl,if_neg (by simp),acF]
   rw[bF]at c2;obtain⟨A,c,bZ,fJ,lW⟩:=B6 h k (by have:=h.ok.most;omega);clear lW;have hlen:(D.waits k).length<=1000000000:=by
    have h1:=fR D.row k;have h2:=h.ok.wH;have h3:=h.ok.il;unfold DevS.waits;omega
   by_cases hn:D.waits k=[]
   ·have HV:Hid (D.aF k=D.sec[k]):=show _=_ by
     rcases DevS.uK hk with hm|hm
     ·rw[hn]at hm;simp at hm
     ·exact hm.2
    have hc:w.cell? ⟨l,k,none⟩=some (.string D.sec[k]):=by
     rw[h.sec.cell k];simp[strs,hk]
    rw[hn]at bZ;have aix:(acR 154 (.map (some m)) (.int .i64 (k:Int)) false).run prog w= .ok (.slice A 0 c) w:=bZ;clear h bF i1 hn bZ fJ hlen;go_enter func152,ntmps152
    go_wp2_with (go_at_call 178;refine(jb qZ.out _).mono ?_;rintro e w2 ⟨rfl,rfl⟩;rw[dw])
    go_ret2
    exact jr (by rw[HL.out,HV.out]) (by rw[HL.out])
   ·obtain⟨n,QX⟩:∃n,(D.waits k).length=n+1:=⟨(D.waits k).length-1,by have:=List.length_pos_iff.2 hn;omega⟩
    have aH:n<(D.waits k).length:=by omega
    have HV:Hid (D.aF k=(D.waits k)[n]):=show _=_ by
     unfold DevS.aF;rw[List.getLastD_eq_getLast?,List.getLast?_eq_getElem?,List.getElem?_eq_getElem (by omega)];simp[QX]
    obtain⟨b,o,rfl,hb,hc⟩:=fJ n (.string (D.waits k)[n]) (by simp[strs,aH]);rw[QX]at bZ;have jY:n<1000000000:=by omega
    have q1:decide ((0:Int)<(n:Int)+1)=true:=by simp
    have HC:=sh hc;generalize hv:(D.waits k)[n]=v at *;have hc':=HC.out;clear h bF i1 hn hlen fJ QX hv aH;go_enter func152,ntmps152
    go_wp2_with (go_at_call 178;refine(jb qZ.out _).mono ?_;rintro e w2 ⟨rfl,rfl⟩;rw[dw])
    go_ret2
    exact jr (by rw[HL.out,HV.out]) (by rw[HL.out])
end Go.Proofs.YtjbcbnemdhbhbaaGreatDoor
namespace Go.Proofs.YtjbcbnemdhbhbaaGreatDoor
open Go.Proofs.Tryz
open Go.Maps (Keyed)
section
variable {P:afi} {k:abS} {w:AI} {m nn:Nat}
theorem FT{v:No}{d:DataW No}{ps:List MemPlace}(h:vR v=some (d,ps)):d= .held v:=by
 unfold vR at h;injection h with h;injection h with h _;exact h.symm
theorem ah.WR{w':AI}(h:w.mapTurned w' m):ah [m] w w':=by
 obtain⟨es,clock,es',ael,hb,rfl⟩:=h;refine⟨rfl,rfl,rfl,?_,fun i hi hn=> ?_⟩
 ·simp[ChangeMaps.setBlock]
 ·exact ChangeMaps.heap_setBlock_other hb _ (by simpa using hn)
theorem IMap.Nw{V:Int->Option No}{t e:abS}{z:No}(h:IMap P k w m nn V)(hk:P.underlying k=some (.int .i64))(ht:P.underlying t=some (.map k e))(hz:(zeroValue e).run P w= .ok z w){i:Int}(hi:(agx .i64 i).wf=true):
  (acR t (.map (some m)) (.int .i64 i) true).run P w= .ok (.tuple #[(V i).getD z,.bool (V i).isSome]) w:=by
 obtain⟨D,aq,ha⟩:=h;obtain⟨v,ps,bZ,hv⟩:=aq.look_ok (afe hk) ht hz (zd:= .held z) (zp:=[]) rfl (Maps.keyOf_int_mk hk hi);have h1:=FT hv;rw[bZ,eO ha];cases hV:V i with
 | none=>
  have h2:afE D (.int .i64 i)=false:=by rw[eO ha,hV];rfl
  rw[Maps.atKey_of_not_has h2]at h1;injection h1 with h1;subst h1;rfl
 | some u=>
  have h2:=(ha.1 i u hV).2.2 (.held z);rw[h2]at h1;injection h1 with h1;subst h1;rfl
theorem IMap.drop{V:Int->Option No}{t e ty:abS}(h:IMap P k w m nn V)(hk:P.underlying k=some (.int .i64))(ht:P.underlying t=some (.map k e)){i:Int}(hi:(agx .i64 i).wf=true):
  ∃w',(Builtin.delete_ #[t,k] ty #[.map (some m),.int .i64 i]).run P w= .ok (.tuple #[]) w'/\IMap P k w' m nn (fun j=>if j=i then none else V j)/\ah [m] w w':=by
 obtain⟨D,aq,ha⟩:=h;obtain⟨w',bZ,lU,ht'⟩:=aq.drop (afe hk) ht (Maps.keyOf_int_mk hk hi) ty;refine⟨w',bZ,⟨_,lU,?_,?_⟩,ah.WR ht'⟩
 ·intro j u hj
  have hj:(if j=i then none else V j)=some u:=hj;by_cases e:j=i
  ·rw[if_pos e]at hj;cases hj
  ·rw[if_neg e]at hj
   obtain⟨h1,h2,h3⟩:=ha.1 j u hj;have bM:agx .i64 j≠agx .i64 i:=fun he=>e (by injection he);exact⟨h1,by rw[Maps.has_del_other bM];exact h2,fun z=>by rw[Maps.atKey_del_other bM];exact h3 z⟩
 ·intro kl iV
  by_cases e:kl=agx .i64 i
  ·subst e;rw[Maps.has_del_same]at iV;cases iV
  ·rw[Maps.has_del_other e]at iV
   obtain⟨j,u,hj,rfl⟩:=ha.2 kl iV;refine⟨j,u,?_,rfl⟩;show (if j=i then none else V j)=some u;rw[if_neg (fun he=>e (by rw[he]))];exact hj
def FX (D:DataW No) (V:ByteArray->Option No):Prop:=
 (∀s v,V s=some v->s.size<=abj/\afE D (.string s.data.toList)=true/\∀z,D.atKey (.string s.data.toList) z= .held v)/\(∀kl,afE D kl=true->∃s v,V s=some v/\kl= .string s.data.toList)
def SMap (P:afi) (k:abS) (w:AI) (m nn:Nat) (V:ByteArray->Option No):Prop:=∃D:DataW No,w.ownsMap P k vR m nn D/\FX D V
variable {V:ByteArray->Option No}
theorem zn{a b:ByteArray}(h:Lit.string a.data.toList=Lit.string b.data.toList):a=b:=by
 injection h with h;obtain⟨⟨a⟩⟩:=a;obtain⟨⟨b⟩⟩:=b;simp only at h;subst h;rfl
theorem SMap.lt(h:SMap P k w m nn V):m<w.heap.size:=by obtain⟨D,h,_⟩:=h;exact h.lt
theorem SMap.of_heap{w':AI}(h:SMap P k w m nn V)(hh:w'.heap[m]? =w.heap[m]?):SMap P k w' m nn V:=by
 obtain⟨D,⟨es,clock,hb,r⟩,ha⟩:=h;exact⟨D,⟨es,clock,hh.trans hb,r⟩,ha⟩
theorem SMap.off{S:List Nat}{w':AI}(h:SMap P k w m nn V)(ho:ah S w w')(hm:m∉S):SMap P k w' m nn V:=h.of_heap (ho.block m h.lt hm)
theorem SMap.mono(h:SMap P k w m nn V){n':Nat}(hn:nn<=n'):SMap P k w m n' V:=by
 obtain⟨D,h,ha⟩:=h;exact⟨D,h.mono hn,ha⟩
theorem SMap.made(w:AI)(P:afi)(k:abS):SMap P k (w.alloc (.map #[] 0)) w.heap.size 0 (fun _=>none):=
 ⟨.map [],World.ownsMap_made w P k vR,fun i v h=>(by cases h),fun kl h=>(by simp[afE]at h)⟩
theorem SMap.kP{g:Nat}{t:abS}{cs:Array No}(h:SMap P k w m nn V)(hb:Bk w g t cs):g≠m:=by
 rintro rfl;obtain⟨D,⟨es,clock,hh,_⟩,_⟩:=h;unfold Bk at hb;rw[hb]at hh;cases hh
theorem iC{D:DataW No}(ha:FX D V)(s:ByteArray):afE D (.string s.data.toList)=(V s).isSome:=by
 cases hv:V s with
 | some v=>rw[(ha.1 s v hv).2.1];rfl
 | none=>
  cases hh:afE D (.string s.data.toList)with
  | false=>rfl
  | true=>
   obtain⟨j,v,hj,he⟩:=ha.2 _ hh;have:=zn he;subst this;rw[hv]at hj;cases hj
theorem SMap.Nw{t e:abS}{z:No}(h:SMap P k w m nn V)(hk:P.underlying k=some .string)(ht:P.underlying t=some (.map k e))(hz:(zeroValue e).run P w= .ok z w){s:ByteArray}(hs:s.size<=abj):
  (acR t (.map (some m)) (.string s) true).run P w= .ok (.tuple #[(V s).getD z,.bool (V s).isSome]) w:=by
 obtain⟨D,aq,ha⟩:=h;obtain⟨v,ps,bZ,hv⟩:=aq.look_ok (Maps.string_keyed hk) ht hz (zd:= .held z) (zp:=[]) rfl (agX hk hs);have h1:=FT hv;rw[bZ,iC ha];cases hV:V s with
 | none=>
  have h2:afE D (.string s.data.toList)=false:=by rw[iC ha,hV];rfl
  rw[Maps.atKey_of_not_has h2]at h1;injection h1 with h1;subst h1;rfl
 | some u=>
  have h2:=(ha.1 s u hV).2.2 (.held z);rw[h2]at h1;injection h1 with h1;subst h1;rfl
theorem SMap.look{t e:abS}{z:No}(h:SMap P k w m nn V)(hk:P.underlying k=some .string)(ht:P.underlying t=some (.map k e))(hz:(zeroValue e).run P w= .ok z w){s:ByteArray}(hs:s.size<=abj):
  (acR t (.map (some m)) (.string s) false).run P w= .ok ((V s).getD z) w:=by
 obtain⟨D,⟨es,clock,hb,F,Q9,rfl⟩,ha⟩:=h;have eV:=agX (P:=P) hk hs;rcases Maps.fit_look false (Maps.string_keyed hk) ht hz hb F eV with⟨bZ,_,cG⟩|⟨e0,y,_,_,bZ,L9,cG,_⟩
 ·cases hv:V s with
  | none=>simpa using bZ
  | some v=>
   have:=(ha.1 s v hv).2.2 .nil;rw[cG .nil]at this;cases this
 ·cases hv:V s with
  | none=>
   exfalso;have h1:=Maps.has_true_of_atKey cG;obtain⟨j,v,hj,he⟩:=ha.2 _ h1;have:=zn he;subst this;rw[hv]at hj;cases hj
  | some v=>
   have h1:=(ha.1 s v hv).2.2 .nil;rw[cG .nil]at h1;have L9:=FT L9;rw[h1]at L9;injection L9 with L9;subst L9;simpa using bZ
theorem SMap.update{t e:abS}(h:SMap P k w m nn V)(hk:P.underlying k=some .string)(ht:P.underlying t=some (.map k e))(hn:nn<abj){s:ByteArray}(hs:s.size<=abj)(v:No):
  ∃w',(Instr.mapUpdate t (.map (some m)) (.string s) v).run P w= .ok () w'/\SMap P k w' m (nn+1) (fun j=>if j=s then some v else V j)/\w.grownBy w' (some m):=by
 obtain⟨D,aq,ha⟩:=h;have eV:=agX (P:=P) hk hs;have Bs:=aq.isMap;have iV:WideAt.IsKeyLit (Lit.string s.data.toList):=(Maps.string_keyed hk).key eV;obtain⟨w',bZ,lU,hg⟩:=aq.update (Maps.string_keyed hk) ht hn (val:=v) eV rfl;refine⟨w',bZ,⟨_,lU,?_,?_⟩,hg⟩
 ·intro j u hj
  have hj:(if j=s then some v else V j)=some u:=hj;by_cases KB:j=s
  ·subst KB
   rw[if_pos rfl]at hj;injection hj with hj;subst hj;exact⟨hs,Maps.has_put_same Bs iV _,fun z=>Maps.atKey_put_same Bs iV _ z⟩
  ·rw[if_neg KB]at hj
   obtain⟨h1,h2,h3⟩:=ha.1 j u hj;have bM:Lit.string j.data.toList≠Lit.string s.data.toList:=fun e=>KB (zn e);exact⟨h1,by rw[ahd bM];exact h2,fun z=>by rw[Maps.atKey_put_other bM];exact h3 z⟩
 ·intro kl Ms
  by_cases SW:kl=Lit.string s.data.toList
  ·exact⟨s,v,if_pos rfl,SW⟩
  ·rw[ahd SW]at Ms
   obtain⟨j,u,hj,rfl⟩:=ha.2 kl Ms;refine⟨j,u,?_,rfl⟩;have KB:j≠s:=fun e=>SW (by rw[e]);show (if j=s then some v else V j)=some u;rw[if_neg KB];exact hj
end
end Go.Proofs.YtjbcbnemdhbhbaaGreatDoor
