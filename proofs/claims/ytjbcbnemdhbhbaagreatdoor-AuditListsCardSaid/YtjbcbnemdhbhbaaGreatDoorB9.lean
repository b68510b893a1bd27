import Derived.Test.YtjbcbnemdhbhbaaGreatDoorB1
import Derived.Maps.RangeWalk
import Derived.Maps.OwnOps
import Derived.Test.YtjbcbnemdhbhbaaGreatDoorB8
import Derived.StringKeys
set_option maxRecDepth 100000
set_option linter.unusedVariables false
set_option linter.unusedSimpArgs false
set_option maxHeartbeats 40000000
open ByteArray renaming empty→aca
open Go renaming Calls→aag,Program→afg,TypeId→abW,Value→IS,World→AI,maxLen→abi,wpList→agL
open Go.Instr renaming lookup→acW
open Go.Lib renaming hid→sh
open Go.Lit renaming int→agw
open Go.Maps renaming has→afp,has_put_other→agV,int_keyed→aeY
open Go.WideMaps renaming keyOf_string_mk→agQ
open Int renaming toNat_natCast→acJ
open List renaming not_mem_nil→acG
namespace Go.Proofs.YtjbcbnemdhbhbaaGreatDoor
open Go.Proofs.Tryz
open Go.Maps (Keyed)
def vR (v:IS):Option (DataW IS×List MemPlace):=some (.held v,[])
def C5 (D:DataW IS) (V:Int->Option IS):Prop:=
 (∀i v,V i=some v->(agw .i64 i).wf=true/\afp D (.int .i64 i)=true/\∀z,D.atKey (.int .i64 i) z= .held v)/\(∀kl,afp D kl=true->∃i v,V i=some v/\kl= .int .i64 i)
def IMap (P:afg) (k:abW) (w:AI) (m nn:Nat) (V:Int->Option IS):Prop:=∃D:DataW IS,w.ownsMap P k vR m nn D/\C5 D V
section
variable {P:afg} {k:abW} {w:AI} {m nn:Nat} {V:Int->Option IS}
theorem CD{i:Int}(h:(-9223372036854775808:Int)<=i)(h1:i<=9223372036854775807):(agw .i64 i).wf=true:=by
 simp[Lit.wf,IntKind.min,IntKind.max,IntKind.bits,IntKind.signed];omega
theorem IMap.lt(h:IMap P k w m nn V):m<w.heap.size:=by obtain⟨D,h,_⟩:=h;exact h.lt
theorem IMap.of_heap{w':AI}(h:IMap P k w m nn V)(hh:w'.heap[m]? =w.heap[m]?):IMap P k w' m nn V:=by
 obtain⟨D,⟨es,clock,hb,r⟩,ha⟩:=h;exact⟨D,⟨es,clock,hh.trans hb,r⟩,ha⟩
theorem IMap.off{S:List Nat}{w':AI}(h:IMap P k w m nn V)(ho:ah S w w')(hm:m∉S):IMap P k w' m nn V:=h.of_heap (ho.block m h.lt hm)
theorem IMap.made(w:AI)(P:afg)(k:abW):IMap P k (w.alloc (.map #[] 0)) w.heap.size 0 (fun _=>none):=
 ⟨.map [],World.ownsMap_made w P k vR,fun i v h=>(by cases h),fun kl h=>(by simp[afp]at h)⟩
theorem IMap.kP{g:Nat}{t:abW}{cs:Array IS}(h:IMap P k w m nn V)(hb:Bk w g t cs):g≠m:=by
 rintro rfl;obtain⟨D,⟨es,clock,hh,_⟩,_⟩:=h;unfold Bk at hb;rw[hb]at hh;cases hh
theorem IMap.look{t e:abW}{z:IS}(h:IMap P k w m nn V)(hk:P.underlying k=some (.int .i64))(ht:P.underlying t=some (.map k e))(hz:(zeroValue e).run P w= .ok z w){i:Int}(hi:(agw .i64 i).wf=true):
  (acW t (.map (some m)) (.int .i64 i) false).run P w= .ok ((V i).getD z) w:=by
 obtain⟨D,⟨es,clock,hb,F,hs,rfl⟩,ha⟩:=h;have gC:=Maps.keyOf_int_mk hk hi;rcases Maps.fit_look false (aeY hk) ht hz hb F gC with⟨cm,_,cL⟩|⟨e0,y,_,_,cm,LX,cL,_⟩
 ·cases hv:V i with
  | none=>simpa using cm
  | some v=>
   have:=(ha.1 i v hv).2.2 .nil;rw[cL .nil]at this;cases this
 ·cases hv:V i with
  | none=>
   exfalso;have h1:=Maps.has_true_of_atKey cL;obtain⟨j,v,hj,he⟩:=ha.2 _ h1;injection he with _ he;subst he;rw[hv]at hj;cases hj
  | some v=>
   have h1:=(ha.1 i v hv).2.2 .nil;rw[cL .nil]at h1;unfold vR at LX;injection LX with LX;subst LX;injection h1 with h1;subst h1;simpa using cm
theorem IMap.update{t e:abW}(h:IMap P k w m nn V)(hk:P.underlying k=some (.int .i64))(ht:P.underlying t=some (.map k e))(hn:nn<abi){i:Int}(hi:(agw .i64 i).wf=true)(v:IS):
  ∃w',(Instr.mapUpdate t (.map (some m)) (.int .i64 i) v).run P w= .ok () w'/\IMap P k w' m (nn+1) (fun j=>if j=i then some v else V j)/\w.grownBy w' (some m):=by
 obtain⟨D,au,ha⟩:=h;have gC:=Maps.keyOf_int_mk hk hi;have AJ:=au.isMap;have gT:WideAt.IsKeyLit (agw .i64 i):=(aeY hk).key gC;obtain⟨w',cm,lP,hg⟩:=au.update (aeY hk) ht hn (val:=v) gC rfl;refine⟨w',cm,⟨_,lP,?_,?_⟩,hg⟩
 ·intro j u hj
  have hj:(if j=i then some v else V j)=some u:=hj;by_cases Kj:j=i
  ·subst Kj
   rw[if_pos rfl]at hj;injection hj with hj;subst hj;exact⟨hi,Maps.has_put_same AJ gT _,fun z=>Maps.atKey_put_same AJ gT _ z⟩
  ·rw[if_neg Kj]at hj
   obtain⟨h1,h2,h3⟩:=ha.1 j u hj;have bL:agw .i64 j≠agw .i64 i:=fun e=>Kj (by injection e);exact⟨h1,by rw[agV bL];exact h2,fun z=>by rw[Maps.atKey_put_other bL];exact h3 z⟩
 ·intro kl Mg
  by_cases SS:kl=agw .i64 i
  ·exact⟨i,v,if_pos rfl,SS⟩
  ·rw[agV SS]at Mg
   obtain⟨j,u,hj,rfl⟩:=ha.2 kl Mg;refine⟨j,u,?_,rfl⟩;have Kj:j≠i:=fun e=>SS (by rw[e]);show (if j=i then some v else V j)=some u;rw[if_neg Kj];exact hj
def gN (P:afg) (k:abW) (w:AI) (m r nn:Nat) (V:Int->Option IS) (left:Int->Bool) (uP:Nat):Prop:=
 ∃(D:DataW IS) (lf:Lit->Bool),w.ranges P k vR m r nn D lf uP/\C5 D V/\∀i,lf (.int .i64 i)=left i
theorem gN.of_heap{w':AI}{r uP:Nat}{left:Int->Bool}(h:gN P k w m r nn V left uP)(hm:w'.heap[m]? =w.heap[m]?)(hr:w'.heap[r]? =w.heap[r]?):gN P k w' m r nn V left uP:=by
 obtain⟨D,lf,⟨es,clock,since,seen,c0,hb,F,hs,hD,gr,rest⟩,ha,hl⟩:=h;exact⟨D,lf,⟨es,clock,since,seen,c0,hm.trans hb,F,hs,hD,hr.trans gr,rest⟩,ha,hl⟩
theorem gN.left_eq{r uP:Nat}{left:Int->Bool}(h:gN P k w m r nn V left uP):w.rangeLeft m r=uP:=by
 obtain⟨D,lf,h,_⟩:=h;exact h.left_eq
theorem gN.kP{r uP g:Nat}{t:abW}{cs:Array IS}{left:Int->Bool}(h:gN P k w m r nn V left uP)(hb:Bk w g t cs):g≠r:=by
 rintro rfl;obtain⟨D,lf,⟨es,clock,since,seen,c0,_,_,_,_,gr,_⟩,_⟩:=h;unfold Bk at hb;rw[hb]at gr;cases gr
theorem eN{D:DataW IS}(ha:C5 D V)(i:Int):afp D (.int .i64 i)=(V i).isSome:=by
 cases hv:V i with
 | some v=>rw[(ha.1 i v hv).2.1];rfl
 | none=>
  cases hh:afp D (.int .i64 i)with
  | false=>rfl
  | true=>
   obtain⟨j,v,hj,he⟩:=ha.2 _ hh;injection he with _ he;subst he;rw[hv]at hj;cases hj
theorem pC{ops:Array Oper}{rest:List Oper}{o:Oper}{a:Act}{Q:Exit->Act->AI->Prop}(hg:o.guard=none)(x:Operand)(t:abW)(Mv:o.op=Op.range t x)(e:abW)(hk:P.underlying k=some (.int .i64))
  (ht:P.underlying t=some (.map k e)) (hm:a.eval x= .map (some m)) (h:IMap P k w m nn V)
  (hK:∀w' uP,gN P k w' m w.heap.size nn V (fun i=>(V i).isSome) uP->w.grownBy w' none->w'.heap.size=w.heap.size+1->agL P ops Q rest (a.put o.dst (.pointer (some ⟨w.heap.size,0,none⟩))) w'):
  agL P ops Q (o::rest) a w:=by
 obtain⟨D,au,ha⟩:=h;exact wpList_range_own w hg x t Mv k e (aeY hk) ht vR m nn D hm au (fun w' h1 h2 h3=>hK w' _ ⟨D,_,h1,ha,eN ha⟩ h2 h3)
theorem qK{ops:Array Oper}{rest:List Oper}{o:Oper}{a:Act}{Q:Exit->Act->AI->Prop}(hg:o.guard=none)(it:Operand)(Mv:o.op=Op.next it false)(hk:P.underlying k=some (.int .i64))
  {r uP:Nat} {left:Int->Bool} (hit:a.eval it= .pointer (some ⟨r,0,none⟩)) (h:gN P k w m r nn V left uP)
  (Za:(∀i,left i=false)->agL P ops Q rest (a.put o.dst (.tuple #[.bool false])) w)
  (Zh:∀(i:Int) (v:IS) (w':AI) (PU:Nat),V i=some v->left i=true->gN P k w' m r nn V (fun j=>left j&& !decide (j=i)) PU->PU<uP->
   w.grownBy w' (some r)->w'.heap.size=w.heap.size->(Instr.entry (.pointer (some ⟨r,0,none⟩))).run P w'= .ok (.tuple #[.int .i64 i,v]) w'->agL P ops Q rest (a.put o.dst (.tuple #[.bool true,.int .i64 i,v])) w'):
  agL P ops Q (o::rest) a w:=by
 obtain⟨D,lf,hr,ha,hl⟩:=h;refine wpList_next_ranges w hg it Mv k (aeY hk) vR (Value.int .i64) (fun v=>v) (fun key kl gC=>by obtain⟨x,rfl,_⟩:=Maps.keyOf_int_inv hk gC;exact⟨x,rfl⟩) (fun v y hv=>⟨v,rfl⟩) m r nn D lf uP hit hr ?_ ?_
 ·intro _ h2
  exact Za (fun i=>by rw[<-hl];exact h2 _)
 ·intro x c kl y w' PU gC IF hv cL rZ aI SM cZ wO
  obtain⟨x',ex,rfl,QW⟩:=Maps.keyOf_int_inv hk gC;cases ex
  unfold vR at hv;injection hv with hv;subst hv;obtain⟨j,v,hj,he⟩:=ha.2 _ (Maps.has_true_of_atKey cL);injection he with _ he;subst he;have h3:=(ha.1 _ v hj).2.2 .nil;rw[cL .nil]at h3;injection h3 with h3;subst h3;refine Zh _ _ w' PU hj (by rw[<-hl];exact IF) ⟨D,_,rZ,ha,fun i=> ?_⟩ aI SM cZ wO;show (lf (.int .i64 i)&& !(agw .i64 i).sameKey (.int .i64 x))=_;rw[hl]
  congr 2
  have gT:WideAt.IsKeyLit (agw .i64 x):=(aeY hk).key gC;rw[Bool.eq_iff_iff,WideAt.sameKey_iff gT];simp
end
end Go.Proofs.YtjbcbnemdhbhbaaGreatDoor
namespace Go.Proofs.YtjbcbnemdhbhbaaGreatDoor
open Go.Proofs.Tryz
open Go.RowKit
open Go.PlainAid
theorem Bk.Kt{w:AI}{g:Nat}{t:abW}{c0 c1 c2 c3 c4 c5:IS}(h:Bk w g t #[c0,c1,c2,c3,c4,c5]):
  w.cell? ⟨g,0,none⟩=some c0/\w.cell? ⟨g,1,none⟩=some c1/\w.cell? ⟨g,2,none⟩=some c2/\w.cell? ⟨g,3,none⟩=some c3/\w.cell? ⟨g,4,none⟩=some c4/\w.cell? ⟨g,5,none⟩=some c5:=
 ⟨by simpa using h.cell 0,by simpa using h.cell 1,by simpa using h.cell 2,by simpa using h.cell 3,by simpa using h.cell 4,by simpa using h.cell 5⟩
abbrev bW (l n:Nat) (m:Nat) (off:Bool) (cD steps writes:Int):Array IS:=
 #[.slice (some ⟨l,0,none⟩) n n,.map (some m),.bool off,.int .i64 cD,.int .i64 steps,.int .i64 writes]
def strs (l:List ByteArray):List IS:=l.map Value.string
theorem Of(l:List ByteArray):∀u∈strs l,u.oneCell'=true:=by
 intro u hu;obtain⟨x,_,rfl⟩:=List.mem_map.1 hu;rfl
def dr (row:List (Nat×ByteArray)) (B C:Nat->Nat) (i:Int):Option IS:=
 if 0<=i/\ba row i.toNat≠[]then some (.slice (some ⟨B i.toNat,0,none⟩) (ba row i.toNat).length (C i.toNat))else none
structure DevAt (w:AI) (g:Nat) (S:List Nat) (D:DevS) (l m nn:Nat) (B C:Nat->Nat):Prop where
 ok:D.Ok
 cells:Bk w g 156 (bW l D.sec.length m D.off D.cD D.steps D.writes)
 sec:Bk w l 9 (strs D.sec).toArray
 map:IMap prog 3 w m nn (dr D.row B C)
 nn:(nn:Int)<=D.writes
 own:∀i,D.waits i≠[]->w.ownsRow 0 9 1 (.slice (some ⟨B i,0,none⟩) (D.waits i).length (C i)) (D.waits i).length (strs (D.waits i))
 apart:∀i j,D.waits i≠[]->D.waits j≠[]->B i=B j->i=j
 nw:∀i,D.waits i≠[]->B i≠l
 yA:g∈S/\l∈S/\m∈S/\∀i,D.waits i≠[]->B i∈S
 old:∀b∈S,b<w.heap.size
def Dev (w:AI) (g:Nat) (S:List Nat) (D:DevS):Prop:=∃l m nn B C,DevAt w g S D l m nn B C
theorem DevAt.off{w w':AI}{g:Nat}{S T:List Nat}{D:DevS}{l m nn:Nat}{B C:Nat->Nat}(h:DevAt w g S D l m nn B C)(ho:ah T w w')(hT:∀b∈S,b∉T):DevAt w' g S D l m nn B C:=by
 obtain⟨i1,i2,i3,i4⟩:=h.yA;exact⟨h.ok,ho.bk h.cells (hT _ i1),ho.bk h.sec (hT _ i2),h.map.off ho (hT _ i3),h.nn,fun i hi=>ho.own (h.own i hi) (fun b hb=>by
  have:b=B i:=by simpa[Value.ownBlock]using hb.symm
  subst this;exact hT _ (i4 i hi)),h.apart,h.nw,h.yA,fun b hb=>Nat.lt_of_lt_of_le (h.old b hb) ho.size⟩
theorem Dev.off{w w':AI}{g:Nat}{S T:List Nat}{D:DevS}(h:Dev w g S D)(ho:ah T w w')(hT:∀b∈S,b∉T):Dev w' g S D:=by
 obtain⟨l,m,nn,B,C,h⟩:=h;exact⟨l,m,nn,B,C,h.off ho hT⟩
theorem Dev.ok{w:AI}{g:Nat}{S:List Nat}{D:DevS}(h:Dev w g S D):D.Ok:=by
 obtain⟨l,m,nn,B,C,h⟩:=h;exact h.ok
theorem Dev.old{w:AI}{g:Nat}{S:List Nat}{D:DevS}(h:Dev w g S D):∀b∈S,b<w.heap.size:=by
 obtain⟨l,m,nn,B,C,h⟩:=h;exact h.old
theorem Dev.below{w w':AI}{g:Nat}{S:List Nat}{D:DevS}(h:Dev w g S D)(hb:Below w.heap.size w w'):Dev w' g S D:=h.off (ah.ae hb []) (fun _ _=>acG)
theorem Dev.drewN{w:AI}{g:Nat}{S:List Nat}{D:DevS}(h:Dev w g S D)(n:Nat):Dev (w.drewN n) g S D:=h.off ((ah.refl [] w).drewN n) (fun _ _=>acG)
def aj (w:AI) (S S':List Nat):Prop:=∀b∈S',b∈S\/w.heap.size<=b
theorem aj.refl(w:AI)(S:List Nat):aj w S S:=fun _ h=> .inl h
theorem aj.trans{w w':AI}{S S' S'':List Nat}(h:aj w S S')(k:aj w' S' S'')(hs:w.heap.size<=w'.heap.size):aj w S S'':=fun b hb=>by
 rcases k b hb with hb|hb
 ·exact h b hb
 ·exact .inr (Nat.le_trans hs hb)
theorem ah.fresh{S S':List Nat}{a b c:AI}(h:ah S a b)(k:ah S' b c)(hf:aj a S S'):ah S a c:=h.then k hf
def gl (g:Nat) (S:List Nat) (D':DevS) (r:IS) (w:AI) (e:Ending) (w':AI):Prop:=
 e= .returned r/\∃S',Dev w' g S' D'/\ah S w w'/\aj w S S'
abbrev ptr (g:Nat):IS:= .pointer (some ⟨g,0,none⟩)
theorem wo{g:Nat}{S:List Nat}{D:DevS}{w:AI}(hd:Dev w g S D):
  aag prog 151 #[ptr g] w fun e w'=>e= .returned (.int .i64 (D.sec.length:Int))/\w=w':=by
 obtain⟨l,m,nn,B,C,h⟩:=hd;obtain⟨c0,c1,c2,c3,c4,c5⟩:=h.cells.Kt;clear h;go_enter func151,ntmps151
 go_wp2_with fail
 go_ret
 exact⟨rfl,rfl⟩
def UF (q:Bool) (w:AI) (e:Ending) (w':AI):Prop:=e= .returned (.bool q)/\w=w'
theorem iX{g:Nat}{S:List Nat}{D:DevS}{w:AI}(hd:Dev w g S D)(i:Int):
  aag prog 178 #[ptr g,.int .i64 i] w (UF (D.nU i) w):=by
 obtain⟨l,m,nn,B,C,h⟩:=hd;obtain⟨c0,c1,c2,c3,c4,c5⟩:=h.cells.Kt;clear h;have fu:(decide (0<=i)=false/\Hid (D.nU i=false))\/(0<=i/\decide (0<=i)=true/\decide (i<(D.sec.length:Int))=false/\Hid (D.nU i=false))\/(0<=i/\decide (0<=i)=true/\decide (i<(D.sec.length:Int))=true/\Hid (D.nU i=true)):=by
  unfold DevS.nU;by_cases h1:0<=i
  ·by_cases h2:i<(D.sec.length:Int)
   ·exact .inr (.inr ⟨h1,by simpa using h1,by simpa using h2,show _=_ by simp;omega⟩)
   ·exact .inr (.inl ⟨h1,by simpa using h1,by simpa using h2,show _=_ by simp;omega⟩)
  ·exact .inl ⟨by simpa using h1,show _=_ by simp;omega⟩
 rcases fu with⟨q1,HB⟩|⟨h0,q1,q2,HB⟩|⟨h0,q1,q2,HB⟩;all_goals
  go_enter func178,ntmps178
  go_wp2_with fail
  go_ret
  exact⟨by rw[HB.out];rfl,rfl⟩
def lu (g:Nat) (q:Bool) (cs:Array IS) (w:AI) (e:Ending) (w':AI):Prop:=e= .returned (.bool q)/\Bk w' g 156 cs/\ah [g] w w'
theorem Hx(g l n m:Nat)(cD steps writes:Int)(w:AI)(h:Bk w g 156 (bW l n m true cD steps writes)):
  aag prog 173 #[ptr g] w (lu g false (bW l n m true cD steps writes) w):=by
 have HB:=sh h;obtain⟨c0,c1,c2,c3,c4,c5⟩:=h.Kt;clear h;go_enter func173,ntmps173
 go_wp2_with fail
 go_ret
 exact⟨rfl,HB.out,ah.refl _ _⟩
theorem Hy(g l n m:Nat)(steps writes:Int)(w:AI)(h:Bk w g 156 (bW l n m false 1 steps writes))(h1:0<=steps)(h2:steps<=1000000000):
  aag prog 173 #[ptr g] w (lu g false (bW l n m true 0 (steps+1) writes) w):=by
 have HB:=sh h;obtain⟨c0,c1,c2,c3,c4,c5⟩:=h.Kt;have g2:=h.frozen 2;have g3:=h.frozen 3;have g4:=h.frozen 4;clear h;go_enter func173,ntmps173
 go_wp2_with fail
 go_ret
 exact⟨rfl,((HB.out.put 4 _).put 2 _).put 3 _,(((ah.refl _ _).setCell (.inl (by simp)) _).setCell (.inl (by simp)) _).setCell (.inl (by simp)) _⟩
theorem DJ(g l n m:Nat)(steps writes:Int)(w:AI)(h:Bk w g 156 (bW l n m false 0 steps writes))(h1:0<=steps)(h2:steps<=1000000000):
  aag prog 173 #[ptr g] w (lu g true (bW l n m false 0 (steps+1) writes) w):=by
 have HB:=sh h;obtain⟨c0,c1,c2,c3,c4,c5⟩:=h.Kt;have g3:=h.frozen 3;have g4:=h.frozen 4;clear h;go_enter func173,ntmps173
 go_wp2_with fail
 go_ret
 exact⟨rfl,(HB.out.put 4 _).put 3 _,((ah.refl _ _).setCell (.inl (by simp)) _).setCell (.inl (by simp)) _⟩
theorem DI(g l n m:Nat)(cD steps writes:Int)(w:AI)(h:Bk w g 156 (bW l n m false cD steps writes))(h1:0<=steps)(h2:steps<=1000000000)(f0:2<=cD)(f1:cD<=9223372036854775807):
  aag prog 173 #[ptr g] w (lu g true (bW l n m false (cD-1) (steps+1) writes) w):=by
 have HB:=sh h;obtain⟨c0,c1,c2,c3,c4,c5⟩:=h.Kt;have g3:=h.frozen 3;have g4:=h.frozen 4;have q1:(cD==1)=false:=by simp;omega
 have q2:decide (cD-1<0)=false:=by simp;omega
 have q3:(0:Int)<=cD-1:=by omega
 have q4:decide ((0:Int)<cD-1)=true:=by simp;omega
 have q5:IntKind.i64.wrap (cD-1)=cD-1:=IntWalk.i64_in _ (by omega);have q6:max 0 (cD-1)=cD-1:=by omega
 clear h;go_enter func173,ntmps173
 go_wp2_with fail
 go_ret
 exact⟨rfl,(HB.out.put 4 _).put 3 _,((ah.refl _ _).setCell (.inl (by simp)) _).setCell (.inl (by simp)) _⟩
theorem mA{g l n m:Nat}{D:DevS}{w:AI}(h:Bk w g 156 (bW l n m D.off D.cD D.steps D.writes))(hk:D.Ok)(hs:D.steps<=1000000000):
  aag prog 173 #[ptr g] w (lu g D.eu (bW l n m D.al.off D.al.cD D.al.steps D.al.writes) w):=by
 have h0:=hk.WD;have f0:=hk.LR;have f1:=hk.FZ;obtain⟨sec,row,off,cD,steps,writes⟩:=D;unfold DevS.eu DevS.al;simp only at *;cases off with
 | true=>exact Hx g l n m cD steps writes w h
 | false=>
  by_cases c1:cD=1
  ·subst c1;exact Hy g l n m steps writes w h h0 hs
  ·by_cases c2:cD=0
   ·subst c2;exact DJ g l n m steps writes w h h0 hs
   ·have e1:(cD==1)=false:=by simpa using c1
    have e2:max 0 (cD-1)=cD-1:=by omega
    simp only[e1,e2];exact DI g l n m cD steps writes w h h0 hs (by omega) f1
theorem xF(w:AI):(zeroValue 72).run prog w= .ok (.slice none 0 0) w:=by kernel_rfl
theorem BA{w:AI}{g:Nat}{S:List Nat}{D:DevS}{l m nn:Nat}{B C:Nat->Nat}(h:DevAt w g S D l m nn B C)(k:Nat)(hk:k<=100000):
  ∃(A:Option Addr) (c:Nat),(acW 154 (.map (some m)) (.int .i64 (k:Int)) false).run prog w= .ok (.slice A (D.waits k).length c) w/\Sl w A (strs (D.waits k))/\
   w.ownsRow 0 9 1 (.slice A (D.waits k).length c) (D.waits k).length (strs (D.waits k))/\(Value.slice A (D.waits k).length c)=(dr D.row B C (k:Int)).getD (.slice none 0 0):=by
 have h1:=h.map.look (t:=154) underlying3 underlying154 (xF w) (i:=(k:Int)) (CD (by omega) (by omega));by_cases hn:D.waits k=[]
 ·refine⟨none,0,?_,?_,?_,?_⟩
  ·rw[h1]
   unfold dr;rw[acJ,if_neg (fun e=>e.2 hn),hn];rfl
  ·rw[hn];exact Sl.nil _ _
  ·rw[hn];exact⟨rfl,.inl ⟨rfl,rfl⟩⟩
  ·unfold dr;rw[acJ,if_neg (fun e=>e.2 hn),hn];rfl
 ·have ho:=h.own k hn
  refine⟨some ⟨B k,0,none⟩,C k,?_,Sl.eG ho,ho,by unfold dr;rw[acJ,if_pos ⟨by omega,hn⟩];rfl⟩;rw[h1];unfold dr;rw[acJ,if_pos ⟨by omega,hn⟩];rfl
def oz (s:ByteArray) (e:Int) (w:AI) (en:Ending) (w':AI):Prop:=en= .returned (.tuple #[.string s,.int .i64 e])/\w=w'
theorem jl{s s':ByteArray}{e e':Int}{w:AI}(h:s=s')(h':e=e'):oz s e w (.returned (.tuple #[.string s',.int .i64 e'])) w:=by subst h;subst h';exact⟨rfl,rfl⟩
theorem Hw{g:Nat}{S:List Nat}{D:DevS}{w:AI}(hd:Dev w g S D)(i:Int)(hb:D.steps<=1000000000):
  aag prog 152 #[ptr g,.int .i64 i] w (oz (D.read i).1 (D.read i).2 w):=by
 have qV:=sh hd;obtain⟨l,m,nn,B,C,h⟩:=hd;obtain⟨c0,c1,c2,c3,c4,c5⟩:=h.cells.Kt;cases dv:D.nU i with
 | false=>
  have HL:Hid (D.read i=(aca,1)):=show _=_ by unfold DevS.read;rw[dv];rfl
  clear h;go_enter func152,ntmps152
  go_wp2_with (go_at_call 178;refine(iX qV.out i).mono ?_;rintro e w2 ⟨rfl,rfl⟩;rw[dv])
  go_ret2
  exact jl (by rw[HL.out];rfl) (by rw[HL.out])
 | true=>
  cases bG:D.off with
  | true=>
   have HL:Hid (D.read i=(aca,6)):=show _=_ by unfold DevS.read;rw[dv,bG];rfl
   rw[bG]at c2;clear h bG;go_enter func152,ntmps152
   go_wp2_with (go_at_call 178;refine(iX qV.out i).mono ?_;rintro e w2 ⟨rfl,rfl⟩;rw[dv])
   go_ret2
   exact jl (by rw[HL.out];rfl) (by rw[HL.out])
  | false=>
   obtain⟨i0,i1⟩:=DevS.iB.1 dv;obtain⟨k,rfl⟩:∃k:Nat,i=(k:Int):=⟨i.toNat,by omega⟩;have hk:k<D.sec.length:=by omega
   have HL:Hid (D.read (k:Int)=(D.aG k,0)):=show _=_ by unfold DevS.read;rw[dv,bG,if_pos rfl,if_neg (by simp),acJ]
   rw[bG]at c2;obtain⟨A,c,cm,fF,om⟩:=BA h k (by have:=h.ok.most;omega);clear om;have hlen:(D.waits k).length<=1000000000:=by
    have h1:=fN D.row k;have h2:=h.ok.Cb;have h3:=h.ok.kF;unfold DevS.waits;omega
   by_cases hn:D.waits k=[]
   ·have HV:Hid (D.aG k=D.sec[k]):=show _=_ by
     rcases DevS.tQ hk with hm|hm
     ·rw[hn]at hm;simp at hm
     ·exact hm.2
    have hc:w.cell? ⟨l,k,none⟩=some (.string D.sec[k]):=by
     rw[h.sec.cell k];simp[strs,hk]
    rw[hn]at cm;have aiy:(acW 154 (.map (some m)) (.int .i64 (k:Int)) false).run prog w= .ok (.slice A 0 c) w:=cm;clear h bG i1 hn cm fF hlen;go_enter func152,ntmps152
    go_wp2_with (go_at_call 178;refine(iX qV.out _).mono ?_;rintro e w2 ⟨rfl,rfl⟩;rw[dv])
    go_ret2
    exact jl (by rw[HL.out,HV.out]) (by rw[HL.out])
   ·obtain⟨n,QF⟩:∃n,(D.waits k).length=n+1:=⟨(D.waits k).length-1,by have:=List.length_pos_iff.2 hn;omega⟩
    have aI:n<(D.waits k).length:=by omega
    have HV:Hid (D.aG k=(D.waits k)[n]):=show _=_ by
     unfold DevS.aG;rw[List.getLastD_eq_getLast?,List.getLast?_eq_getElem?,List.getElem?_eq_getElem (by omega)];simp[QF]
    obtain⟨b,o,rfl,hb,hc⟩:=fF n (.string (D.waits k)[n]) (by simp[strs,aI]);rw[QF]at cm;have jv:n<1000000000:=by omega
    have q1:decide ((0:Int)<(n:Int)+1)=true:=by simp
    have HC:=sh hc;generalize hv:(D.waits k)[n]=v at *;have hc':=HC.out;clear h bG i1 hn hlen fF QF hv aI;go_enter func152,ntmps152
    go_wp2_with (go_at_call 178;refine(iX qV.out _).mono ?_;rintro e w2 ⟨rfl,rfl⟩;rw[dv])
    go_ret2
    exact jl (by rw[HL.out,HV.out]) (by rw[HL.out])
end Go.Proofs.YtjbcbnemdhbhbaaGreatDoor
namespace Go.Proofs.YtjbcbnemdhbhbaaGreatDoor
open Go.Proofs.Tryz
open Go.Maps (Keyed)
section
variable {P:afg} {k:abW} {w:AI} {m nn:Nat}
theorem Fv{v:IS}{d:DataW IS}{ps:List MemPlace}(h:vR v=some (d,ps)):d= .held v:=by
 unfold vR at h;injection h with h;injection h with h _;exact h.symm
theorem ah.WK{w':AI}(h:w.mapTurned w' m):ah [m] w w':=by
 obtain⟨es,clock,es',aeq,hb,rfl⟩:=h;refine⟨rfl,rfl,rfl,?_,fun i hi hn=> ?_⟩
 ·simp[ChangeMaps.setBlock]
 ·exact ChangeMaps.heap_setBlock_other hb _ (by simpa using hn)
theorem IMap.Ng{V:Int->Option IS}{t e:abW}{z:IS}(h:IMap P k w m nn V)(hk:P.underlying k=some (.int .i64))(ht:P.underlying t=some (.map k e))(hz:(zeroValue e).run P w= .ok z w){i:Int}(hi:(agw .i64 i).wf=true):
  (acW t (.map (some m)) (.int .i64 i) true).run P w= .ok (.tuple #[(V i).getD z,.bool (V i).isSome]) w:=by
 obtain⟨D,au,ha⟩:=h;obtain⟨v,ps,cm,hv⟩:=au.look_ok (aeY hk) ht hz (zd:= .held z) (zp:=[]) rfl (Maps.keyOf_int_mk hk hi);have h1:=Fv hv;rw[cm,eN ha];cases hV:V i with
 | none=>
  have h2:afp D (.int .i64 i)=false:=by rw[eN ha,hV];rfl
  rw[Maps.atKey_of_not_has h2]at h1;injection h1 with h1;subst h1;rfl
 | some u=>
  have h2:=(ha.1 i u hV).2.2 (.held z);rw[h2]at h1;injection h1 with h1;subst h1;rfl
theorem IMap.drop{V:Int->Option IS}{t e ty:abW}(h:IMap P k w m nn V)(hk:P.underlying k=some (.int .i64))(ht:P.underlying t=some (.map k e)){i:Int}(hi:(agw .i64 i).wf=true):
  ∃w',(Builtin.delete_ #[t,k] ty #[.map (some m),.int .i64 i]).run P w= .ok (.tuple #[]) w'/\IMap P k w' m nn (fun j=>if j=i then none else V j)/\ah [m] w w':=by
 obtain⟨D,au,ha⟩:=h;obtain⟨w',cm,lP,ht'⟩:=au.drop (aeY hk) ht (Maps.keyOf_int_mk hk hi) ty;refine⟨w',cm,⟨_,lP,?_,?_⟩,ah.WK ht'⟩
 ·intro j u hj
  have hj:(if j=i then none else V j)=some u:=hj;by_cases e:j=i
  ·rw[if_pos e]at hj;cases hj
  ·rw[if_neg e]at hj
   obtain⟨h1,h2,h3⟩:=ha.1 j u hj;have bL:agw .i64 j≠agw .i64 i:=fun he=>e (by injection he);exact⟨h1,by rw[Maps.has_del_other bL];exact h2,fun z=>by rw[Maps.atKey_del_other bL];exact h3 z⟩
 ·intro kl gT
  by_cases e:kl=agw .i64 i
  ·subst e;rw[Maps.has_del_same]at gT;cases gT
  ·rw[Maps.has_del_other e]at gT
   obtain⟨j,u,hj,rfl⟩:=ha.2 kl gT;refine⟨j,u,?_,rfl⟩;show (if j=i then none else V j)=some u;rw[if_neg (fun he=>e (by rw[he]))];exact hj
def Fz (D:DataW IS) (V:ByteArray->Option IS):Prop:=
 (∀s v,V s=some v->s.size<=abi/\afp D (.string s.data.toList)=true/\∀z,D.atKey (.string s.data.toList) z= .held v)/\(∀kl,afp D kl=true->∃s v,V s=some v/\kl= .string s.data.toList)
def SMap (P:afg) (k:abW) (w:AI) (m nn:Nat) (V:ByteArray->Option IS):Prop:=∃D:DataW IS,w.ownsMap P k vR m nn D/\Fz D V
variable {V:ByteArray->Option IS}
theorem yE{a b:ByteArray}(h:Lit.string a.data.toList=Lit.string b.data.toList):a=b:=by
 injection h with h;obtain⟨⟨a⟩⟩:=a;obtain⟨⟨b⟩⟩:=b;simp only at h;subst h;rfl
theorem SMap.lt(h:SMap P k w m nn V):m<w.heap.size:=by obtain⟨D,h,_⟩:=h;exact h.lt
theorem SMap.of_heap{w':AI}(h:SMap P k w m nn V)(hh:w'.heap[m]? =w.heap[m]?):SMap P k w' m nn V:=by
 obtain⟨D,⟨es,clock,hb,r⟩,ha⟩:=h;exact⟨D,⟨es,clock,hh.trans hb,r⟩,ha⟩
theorem SMap.off{S:List Nat}{w':AI}(h:SMap P k w m nn V)(ho:ah S w w')(hm:m∉S):SMap P k w' m nn V:=h.of_heap (ho.block m h.lt hm)
theorem SMap.made(w:AI)(P:afg)(k:abW):SMap P k (w.alloc (.map #[] 0)) w.heap.size 0 (fun _=>none):=
 ⟨.map [],World.ownsMap_made w P k vR,fun i v h=>(by cases h),fun kl h=>(by simp[afp]at h)⟩
theorem SMap.kP{g:Nat}{t:abW}{cs:Array IS}(h:SMap P k w m nn V)(hb:Bk w g t cs):g≠m:=by
 rintro rfl;obtain⟨D,⟨es,clock,hh,_⟩,_⟩:=h;unfold Bk at hb;rw[hb]at hh;cases hh
theorem ir{D:DataW IS}(ha:Fz D V)(s:ByteArray):afp D (.string s.data.toList)=(V s).isSome:=by
 cases hv:V s with
 | some v=>rw[(ha.1 s v hv).2.1];rfl
 | none=>
  cases hh:afp D (.string s.data.toList)with
  | false=>rfl
  | true=>
   obtain⟨j,v,hj,he⟩:=ha.2 _ hh;have:=yE he;subst this;rw[hv]at hj;cases hj
theorem SMap.Ng{t e:abW}{z:IS}(h:SMap P k w m nn V)(hk:P.underlying k=some .string)(ht:P.underlying t=some (.map k e))(hz:(zeroValue e).run P w= .ok z w){s:ByteArray}(hs:s.size<=abi):
  (acW t (.map (some m)) (.string s) true).run P w= .ok (.tuple #[(V s).getD z,.bool (V s).isSome]) w:=by
 obtain⟨D,au,ha⟩:=h;obtain⟨v,ps,cm,hv⟩:=au.look_ok (Maps.string_keyed hk) ht hz (zd:= .held z) (zp:=[]) rfl (agQ hk hs);have h1:=Fv hv;rw[cm,ir ha];cases hV:V s with
 | none=>
  have h2:afp D (.string s.data.toList)=false:=by rw[ir ha,hV];rfl
  rw[Maps.atKey_of_not_has h2]at h1;injection h1 with h1;subst h1;rfl
 | some u=>
  have h2:=(ha.1 s u hV).2.2 (.held z);rw[h2]at h1;injection h1 with h1;subst h1;rfl
theorem SMap.look{t e:abW}{z:IS}(h:SMap P k w m nn V)(hk:P.underlying k=some .string)(ht:P.underlying t=some (.map k e))(hz:(zeroValue e).run P w= .ok z w){s:ByteArray}(hs:s.size<=abi):
  (acW t (.map (some m)) (.string s) false).run P w= .ok ((V s).getD z) w:=by
 obtain⟨D,⟨es,clock,hb,F,QT,rfl⟩,ha⟩:=h;have gC:=agQ (P:=P) hk hs;rcases Maps.fit_look false (Maps.string_keyed hk) ht hz hb F gC with⟨cm,_,cL⟩|⟨e0,y,_,_,cm,LX,cL,_⟩
 ·cases hv:V s with
  | none=>simpa using cm
  | some v=>
   have:=(ha.1 s v hv).2.2 .nil;rw[cL .nil]at this;cases this
 ·cases hv:V s with
  | none=>
   exfalso;have h1:=Maps.has_true_of_atKey cL;obtain⟨j,v,hj,he⟩:=ha.2 _ h1;have:=yE he;subst this;rw[hv]at hj;cases hj
  | some v=>
   have h1:=(ha.1 s v hv).2.2 .nil;rw[cL .nil]at h1;have LX:=Fv LX;rw[h1]at LX;injection LX with LX;subst LX;simpa using cm
theorem SMap.update{t e:abW}(h:SMap P k w m nn V)(hk:P.underlying k=some .string)(ht:P.underlying t=some (.map k e))(hn:nn<abi){s:ByteArray}(hs:s.size<=abi)(v:IS):
  ∃w',(Instr.mapUpdate t (.map (some m)) (.string s) v).run P w= .ok () w'/\SMap P k w' m (nn+1) (fun j=>if j=s then some v else V j)/\w.grownBy w' (some m):=by
 obtain⟨D,au,ha⟩:=h;have gC:=agQ (P:=P) hk hs;have AJ:=au.isMap;have gT:WideAt.IsKeyLit (Lit.string s.data.toList):=(Maps.string_keyed hk).key gC;obtain⟨w',cm,lP,hg⟩:=au.update (Maps.string_keyed hk) ht hn (val:=v) gC rfl;refine⟨w',cm,⟨_,lP,?_,?_⟩,hg⟩
 ·intro j u hj
  have hj:(if j=s then some v else V j)=some u:=hj;by_cases Kj:j=s
  ·subst Kj
   rw[if_pos rfl]at hj;injection hj with hj;subst hj;exact⟨hs,Maps.has_put_same AJ gT _,fun z=>Maps.atKey_put_same AJ gT _ z⟩
  ·rw[if_neg Kj]at hj
   obtain⟨h1,h2,h3⟩:=ha.1 j u hj;have bL:Lit.string j.data.toList≠Lit.string s.data.toList:=fun e=>Kj (yE e);exact⟨h1,by rw[agV bL];exact h2,fun z=>by rw[Maps.atKey_put_other bL];exact h3 z⟩
 ·intro kl Mg
  by_cases SS:kl=Lit.string s.data.toList
  ·exact⟨s,v,if_pos rfl,SS⟩
  ·rw[agV SS]at Mg
   obtain⟨j,u,hj,rfl⟩:=ha.2 kl Mg;refine⟨j,u,?_,rfl⟩;have Kj:j≠s:=fun e=>SS (by rw[e]);show (if j=s then some v else V j)=some u;rw[if_neg Kj];exact hj
end
end Go.Proofs.YtjbcbnemdhbhbaaGreatDoor
