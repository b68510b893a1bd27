import Derived.WalkKit
import Derived.Deep.Draws
import Derived.Deep.AppendLies
import Derived.OneCell
import Derived.Laws.Rows
import Derived.Maps.AppendAt
import Derived.OwnWalk
import Derived.Lib.FrozenHead
import Derived.Laws.IdiomStrings
import Derived.PlainAid
import Derived.Test.YtjbcbnemdhbhbaaGreatDoorChecked
import Derived.WalkSpells
import Derived.WalkLawsBesides
import Derived.Deep.QuietTactic
import Derived.BigQuiet
import Derived.Lib.Hide
import Derived.Deep.LoopGhost
import Derived.Outline
import Derived.Laws.BytesArg
import Derived.Deep.DeepCutAuto
import Derived.Deep.RegionHeld3
import Derived.StillTailTactics
import Derived.Deep.RegionWith
import Derived.Deep.OwnRows
import Derived.Laws.BitsAllLaws
set_option maxRecDepth 100000
set_option linter.unusedVariables false
set_option linter.unusedSimpArgs false
set_option maxHeartbeats 40000000
open Array renaming getElem?_toList→acP
open Bool renaming and_eq_true→abM,false_eq_true→adh
open Go renaming Addr→acn,Ending→aci,TypeId→abW,Value→IS,World→AI,lt_of_block→adu,maxLen→abi
open Go.Builtin renaming append_→adL,firstCells→agY
open Go.ByteArray renaming toList_eq→abY
open Go.Lib renaming hid→sh
open Go.Op renaming bytesLess→acm
open Go.RowKit renaming Below→No
open Go.RowKit.Below renaming heap_alloc→aeS,heap_setCell→aea,refl→IN
open Go.Value renaming int→acK,ownBlock→aaU
open Go.World renaming cell?_of_block→acq,setCell→aeH
open List renaming drop_eq_getElem_cons→abP,drop_of_length_le→acF,eq_nil_of_length_eq_zero→abZ,getElem?_append_left→acr,getElem?_eq_getElem→aaG,getElem?_eq_some_iff→abA,getElem?_map→acz,getElem?_take_of_lt→agS,length_append→BY,length_cons→abB,map_cons→acp,nil_append→adn,replicate→abQ,take_of_length_le→abI
open Nat renaming le_refl→AS,le_trans→abE,lt_of_lt_of_le→aaf,pow_le_pow_right→afn,pow_succ→agf,sub_self→agd,zero_add→abU,zero_le→abc
open Or renaming inl→agN
namespace Go.Proofs.YtjbcbnemdhbhbaaGreatDoor
open Go.Proofs.Tryz
open Go.RowKit
def Bk (w:AI) (g:Nat) (t:abW) (cs:Array IS):Prop:=w.heap[g]? =some (.cells cs t (0,0))
theorem Bk.lt{w:AI}{g:Nat}{t:abW}{cs:Array IS}(h:Bk w g t cs):g<w.heap.size:=adu h
theorem Bk.cell{w:AI}{g:Nat}{t:abW}{cs:Array IS}(h:Bk w g t cs)(i:Nat):w.cell? ⟨g,i,none⟩=cs[i]? :=cell_of_row w g i cs t (0,0) h
theorem Bk.frozen{w:AI}{g:Nat}{t:abW}{cs:Array IS}(h:Bk w g t cs)(i:Nat):w.frozen? ⟨g,i,none⟩=false:=by
 unfold Bk at h;simp[World.frozen?,h]
theorem Bk.drew{w:AI}{g:Nat}{t:abW}{cs:Array IS}(h:Bk w g t cs):Bk w.drew g t cs:=h
theorem Bk.alloc{w:AI}{g:Nat}{t:abW}{cs:Array IS}(h:Bk w g t cs)(o:Obj):Bk (w.alloc o) g t cs:=(aeS w o g h.lt).trans h
theorem Bk.new(w:AI)(t:abW)(cs:Array IS):Bk (w.alloc (.cells cs t)) w.heap.size t cs:=heap_alloc_new w _
theorem Bk.put{w:AI}{g:Nat}{t:abW}{cs:Array IS}(h:Bk w g t cs)(i:Nat)(u:IS):Bk (w.setCell ⟨g,i,none⟩ u) g t (cs.setIfInBounds i u):=by
 unfold Bk at h |-;simp[aeH,Array.getElem?_modify,h]
theorem Bk.zf{w:AI}{g:Nat}{t:abW}{cs:Array IS}(h:Bk w g t cs){p:acn}(hp:g≠p.block)(u:IS):Bk (w.setCell p u) g t cs:=(aea w p u g hp).trans h
theorem Bk.ne{w:AI}{g g':Nat}{t t':abW}{cs zQ:Array IS}(h:Bk w g t cs)(h':Bk w g' t' zQ)(bL:t≠t'):g≠g':=by
 rintro rfl;unfold Bk at h h';rw[h]at h';injection h' with h';injection h' with _ ht;exact bL ht
theorem bP{w:AI}{g base:Nat}{t e:abW}{size n:Nat}{v:IS}{xs:List IS}{cs:Array IS}(h:w.ownsRow base e size v n xs)(hg:Bk w g t cs)(bL:e≠t):v.ownBlock≠some g:=by
 rcases h.2 with⟨rfl,_⟩|⟨g',cap,cur,rfl,_,hh,_⟩
 ·simp[aaU]
 ·intro he
  obtain rfl:g'=g:=by simpa[aaU]using he
  exact Bk.ne (t:=e) hh hg bL rfl
structure ah (S:List Nat) (w w':AI):Prop where
 os:w'.os=w.os
 tape:w'.tape=w.tape
 output:w'.output=w.output
 size:w.heap.size<=w'.heap.size
 block:∀k,k<w.heap.size->k∉S->w'.heap[k]? =w.heap[k]?
theorem ah.refl(S:List Nat)(w:AI):ah S w w:=⟨rfl,rfl,rfl,AS _,fun _ _ _=>rfl⟩
theorem ah.trans{S:List Nat}{a b c:AI}(h:ah S a b)(k:ah S b c):ah S a c:=
 ⟨k.os.trans h.os,k.tape.trans h.tape,k.output.trans h.output,abE h.size k.size,fun i hi hn=>(k.block i (aaf hi h.size) hn).trans (h.block i hi hn)⟩
theorem ah.then{S T:List Nat}{a b c:AI}(h:ah S a b)(k:ah T b c)(hT:∀g∈T,g∈S\/a.heap.size<=g):ah S a c:=
 ⟨k.os.trans h.os,k.tape.trans h.tape,k.output.trans h.output,abE h.size k.size,fun i hi hn=>
  (k.block i (aaf hi h.size) (fun ht=>(hT i ht).elim hn (fun h1=>absurd hi (by omega)))).trans (h.block i hi hn)⟩
theorem ah.mono{S T:List Nat}{a b:AI}(h:ah S a b)(hT:∀g∈S,g∈T\/a.heap.size<=g):ah T a b:=
 ⟨h.os,h.tape,h.output,h.size,fun i hi hn=>h.block i hi (fun ht=>(hT i ht).elim hn (fun h1=>absurd hi (by omega)))⟩
theorem ah.drew{S:List Nat}{a w:AI}(h:ah S a w):ah S a w.drew:=⟨h.os,h.tape,h.output,h.size,h.block⟩
theorem ah.drewN{S:List Nat}{a w:AI}(h:ah S a w)(n:Nat):ah S a (w.drewN n):=⟨h.os,h.tape,h.output,h.size,h.block⟩
theorem ah.alloc{S:List Nat}{a w:AI}(h:ah S a w)(o:Obj):ah S a (w.alloc o):=
 ⟨h.os,h.tape,h.output,abE h.size (by simp),fun i hi hn=>(aeS w o i (aaf hi h.size)).trans (h.block i hi hn)⟩
theorem ah.setCell{S:List Nat}{a w:AI}(h:ah S a w){p:acn}(hp:p.block∈S\/a.heap.size<=p.block)(u:IS):ah S a (w.setCell p u):=
 ⟨h.os,h.tape,h.output,by simpa[aeH]using h.size,fun i hi hn=>(aea w p u i (by
  rintro rfl;rcases hp with hp|hp
  ·exact hn hp
  ·omega)).trans (h.block i hi hn)⟩
theorem ah.grown{S:List Nat}{a w w':AI}{row:Option Nat}(h:ah S a w)(hg:w.grownBy w' row)(hr:∀g,row=some g->g∈S\/a.heap.size<=g):ah S a w':=
 ⟨hg.os.trans h.os,hg.tape.trans h.tape,hg.output.trans h.output,abE h.size hg.size,fun i hi hn=>
  (hg.block i (aaf hi h.size) (fun e=>(hr i e.symm).elim hn (fun h1=>absurd hi (by omega)))).trans (h.block i hi hn)⟩
theorem ah.ae{w w':AI}(h:No w.heap.size w w')(S:List Nat):ah S w w':=⟨h.os,h.tape,h.output,h.size,fun i hi _=>h.block i hi⟩
theorem ah.below{S:List Nat}{w w':AI}(h:ah S w w'){B:Nat}(hB:B<=w.heap.size)(hS:∀g∈S,B<=g):No B w w':=
 ⟨h.os,h.tape,h.output,h.size,fun i hi=>h.block i (by omega) (fun hs=>by have:=hS i hs;omega)⟩
theorem ah.bk{S:List Nat}{w w':AI}(h:ah S w w'){g:Nat}{t:abW}{cs:Array IS}(hb:Bk w g t cs)(hg:g∉S):Bk w' g t cs:=(h.block g hb.lt hg).trans hb
theorem ah.cell{S:List Nat}{w w':AI}(h:ah S w w'){p:acn}(hp:p.block<w.heap.size)(hn:p.block∉S):w'.cell? p=w.cell? p:=acq (h.block p.block hp hn)
theorem ah.own{S:List Nat}{w w':AI}(h:ah S w w'){base:Nat}{e:abW}{size n:Nat}{v:IS}{xs:List IS}(ho:w.ownsRow base e size v n xs)(hn:∀g,v.ownBlock=some g->g∉S):w'.ownsRow base e size v n xs:=by
 obtain⟨h1,h2⟩:=ho;refine⟨h1,?_⟩;rcases h2 with h2|⟨g,cap,cur,rfl,hb,hh,r⟩
 ·exact agN h2
 ·exact Or.inr ⟨g,cap,cur,rfl,hb,(h.block g (adu hh) (hn g rfl)).trans hh,r⟩
theorem l7{w:AI}{base zH:Nat}{e:abW}{size n:Nat}{v:IS}{xs:List IS}(ho:w.ownsRow base e size v n xs)(h:zH<=base):w.ownsRow zH e size v n xs:=by
 obtain⟨h1,h2⟩:=ho;refine⟨h1,?_⟩;rcases h2 with h2|⟨g,cap,cur,rfl,hb,r⟩
 ·exact agN h2
 ·exact Or.inr ⟨g,cap,cur,rfl,by omega,r⟩
def Sl (w:AI) (A:Option acn) (xs:List IS):Prop:=∀(j:Nat) (u:IS),xs[j]? =some u->∃b o,A=some ⟨b,o,none⟩/\b<w.heap.size/\w.cell? ⟨b,o+j,none⟩=some u
theorem Sl.nil(w:AI)(A:Option acn):Sl w A []:=fun j u h=>by simp at h
theorem Sl.off{S:List Nat}{w w':AI}{A:Option acn}{xs:List IS}(h:Sl w A xs)(ho:ah S w w')(hn:∀a,A=some a->a.block∉S):Sl w' A xs:=by
 intro j u hu;obtain⟨b,o,rfl,hb,hc⟩:=h j u hu;exact⟨b,o,rfl,aaf hb ho.size,(ho.cell (p:=⟨b,o+j,none⟩) hb (hn ⟨b,o,none⟩ rfl)).trans hc⟩
theorem Sl.below{w w':AI}{A:Option acn}{xs:List IS}(h:Sl w A xs)(ho:No w.heap.size w w'):Sl w' A xs:=by
 intro j u hu;obtain⟨b,o,rfl,hb,hc⟩:=h j u hu;exact⟨b,o,rfl,aaf hb ho.size,(ho.cell (p:=⟨b,o+j,none⟩) hb).trans hc⟩
theorem Sl.eG{w:AI}{base:Nat}{e:abW}{n n' c:Nat}{A:Option acn}{xs:List IS}(h:w.ownsRow base e 1 (.slice A n' c) n xs):Sl w A xs:=by
 intro j u hu;have hj:j<xs.length:=(abA.1 hu).1;have hl:=h.1;obtain⟨g,cap,hv,_,aI⟩:=h.form (by omega);injection hv with hA;subst hA;refine⟨g,0,rfl,aI,?_⟩;have h1:=h.cells (g:=g) rfl j u hu;have e:(⟨g,0,none⟩:acn).add j=⟨g,0+j,none⟩:=by
  unfold Addr.add;by_cases h0:j=0<;>simp[h0]
 rw[e]at h1;exact h1
theorem cT{w:AI}{base:Nat}{e:abW}{n:Nat}{v:IS}{xs:List IS}(h:w.ownsRow base e 1 v n xs):
  ∃(A:Option acn) (c:Nat),v= .slice A n c/\n<=c/\c<=abi/\n=xs.length/\Sl w A xs/\∀a,A=some a->base<=a.block/\v.ownBlock=some a.block:=by
 have h0:=h;obtain⟨h1,h2⟩:=h;rcases h2 with⟨rfl,rfl⟩|⟨g,cap,cur,rfl,hb,hh,hc,hm,r⟩
 ·exact⟨none,0,rfl,AS _,abc _,by omega,Sl.eG h0,fun a ha=>by cases ha⟩
 ·exact⟨some ⟨g,0,none⟩,cap,rfl,hc,hm,by omega,Sl.eG h0,fun a ha=>by cases ha;exact⟨hb,rfl⟩⟩
section
variable {P:Program} (w:AI)
theorem run_append_nil(base:Nat)(t ty e:abW)(i:TypeInfo)(size:Nat)(ht:P.underlying t=some (.slice e))(hi:P.info? e=some i)
  (v:IS) (n:Nat) (xs:List IS) (au:w.ownsRow base e size v n xs) (c:Nat):(adL #[t,t] ty #[v,.slice none 0 c]).run P w= .ok v w:=by
 rcases au.2 with⟨rfl,rfl⟩|⟨g,cap,cur,rfl,_,_,QH,_⟩
 ·simp[adL,run_underlying ht,sizeOf,typeInfo,hi,Builtin.lenOf,agY]
 ·simp[adL,run_underlying ht,sizeOf,typeInfo,hi,Builtin.lenOf,agY,QH,storeCells]
theorem vG(base:Nat)(t ty e:abW)(i:TypeInfo)(z:IS)(bytes:Nat)(ht:P.underlying t=some (.slice e))(hi:P.info? e=some i)(hz:i.zero=some z)
  (tK:i.size=1) (Vc:i.bytes=bytes) (Wf:z.cells.size=1)
  (v:IS) (n:Nat) (xs:List IS) (au:w.ownsRow base e 1 v n xs)
  (A:Option acn) (m c:Nat) (news:List IS) (hm:news.length=m) (hr:Sl w A news) (h1:∀u∈news,u.oneCell'=true)
  (US:n+m<=abi) (nN:(n+m)*bytes<=140737488355328) (tw:base<=w.heap.size):
  ∃v' w',(adL #[t,t] ty #[v,.slice A m c]).run P w= .ok v' w'/\w'.ownsRow base e 1 v' (n+m) (xs++news)/\w.grownBy w' v.ownBlock/\
   (v'.ownBlock=v.ownBlock\/v'.ownBlock=some w.heap.size):=by
 rcases A with _|ad
 ·have hn:news=[]:=by
   cases news with
   | nil=>rfl
   | cons u r=>obtain⟨b,o,h,_⟩:=hr 0 u rfl;cases h
  subst hn;obtain rfl:m=0:=by simpa using hm.symm
  exact⟨v,w,run_append_nil w base t ty e i 1 ht hi v n xs au c,by simpa using au,World.grownBy.refl w _,.inl rfl⟩
 ·have DV:∀j u,news[j]? =some u->w.cell? (ad.add j)=some u:=by
   intro j u hu;obtain⟨b,o,h,_,hc⟩:=hr j u hu;injection h with h;subst h;have e2:(⟨b,o,none⟩:acn).add j=⟨b,o+j,none⟩:=by
    unfold Addr.add;by_cases h0:j=0<;>simp[h0]
   rw[e2];exact hc
  obtain⟨v',w',cm,h2,h3,_,h5⟩:=run_append_own_at (P:=P) w base t ty e i z 1 bytes ht hi hz tK Vc Wf (by decide) v n xs au ad m c news (by omega) DV h1 US nN tw;exact⟨v',w',cm,h2,h3,h5⟩
theorem cJ{ops:Array Oper}{rest:List Oper}{o:Oper}{a:Act}{Q:Exit->Act->AI->Prop}(Kh:o.guard=none)(s x:Operand)(t:abW)
  (ho:o.op= .call { callee:= .builtin .append,args:= #[s,x],argTypes:= #[t,t] })
  (base:Nat) (e:abW) (i:TypeInfo) (z:IS) (bytes:Nat) (ht:P.underlying t=some (.slice e)) (hi:P.info? e=some i) (hz:i.zero=some z)
  (tK:i.size=1) (Vc:i.bytes=bytes) (Wf:z.cells.size=1)
  (v:IS) (n:Nat) (xs:List IS) (hs:a.eval s=v) (au:w.ownsRow base e 1 v n xs)
  (A:Option acn) (m c:Nat) (news:List IS) (hm:news.length=m) (hx:a.eval x= .slice A m c) (hr:Sl w A news) (h1:∀u∈news,u.oneCell'=true)
  (US:n+m<=abi) (nN:(n+m)*bytes<=140737488355328) (tw:base<=w.heap.size)
  (h:∀v' w',w'.ownsRow base e 1 v' (n+m) (xs++news)->w.grownBy w' v.ownBlock->(v'.ownBlock=v.ownBlock\/v'.ownBlock=some w.heap.size)->wpList P ops Q rest (a.put o.dst v') w'):wpList P ops Q (o::rest) a w:=by
 refine wpList_plain Kh fun K hK=> ?_;obtain⟨v',w',cm,h2,h3,h4⟩:=vG (P:=P) w base t o.type e i z bytes ht hi hz tK Vc Wf v n xs au A m c news hm hr h1 US nN tw;unfold Oper.wp execOp;simp only[ho,resolve,invoke,builtin,Sem.run_bind,Sem.run_pure,Result.andThen_ok,List.map_toArray,acp,List.map_nil,hs,hx,cm];exact hK _ _ (h v' w' h2 h3 h4)
end
def sO (w:AI) (base:Nat) (e:abW) (v:IS) (n:Nat) (xs:List IS):Prop:=
 xs.length=n/\((v= .slice none 0 0/\n=0)\/
  ∃g cap cur fz,v= .slice (some ⟨g,0,none⟩) n cap/\base<=g/\w.heap[g]? =some (.cells cur e fz)/\(fz.2=0\/cur.size<=fz.1)/\n<=cap/\cap<=abi/\cur.size=cap/\cur.toList.take n=xs)
section
variable {w:AI} {base:Nat} {e:abW} {v:IS} {n:Nat} {xs:List IS}
theorem sO.eG(h:w.ownsRow base e 1 v n xs):sO w base e v n xs:=by
 obtain⟨h1,h2⟩:=h;refine⟨by omega,?_⟩;rcases h2 with h2|⟨g,cap,cur,hv,hb,hg,hc,hm,hs,ht⟩
 ·exact .inl h2
 ·exact .inr ⟨g,cap,cur,(0,0),hv,hb,hg,.inl rfl,hc,hm,by omega,by rw[Nat.mul_one]at ht;exact ht⟩
theorem sO.keep{w':AI}(h:sO w base e v n xs)(hk:∀k,v.ownBlock=some k->w'.heap[k]? =w.heap[k]?):sO w' base e v n xs:=by
 refine⟨h.1,?_⟩;rcases h.2 with hn|⟨g,cap,cur,fz,rfl,hb,hgg,rest⟩
 ·exact .inl hn
 ·exact .inr ⟨g,cap,cur,fz,rfl,hb,(hk g rfl).trans hgg,rest⟩
theorem sO.slice(h:sO w base e v n xs):∃(A:Option acn) (c:Nat),v= .slice A n c/\n<=c/\c<=abi/\n=xs.length/\Sl w A xs/\∀a,A=some a->base<=a.block/\v.ownBlock=some a.block:=by
 obtain⟨h1,h2⟩:=h;rcases h2 with⟨rfl,rfl⟩|⟨g,cap,cur,fz,rfl,hb,hh,hf,hc,hm,hs,ht⟩
 ·obtain rfl:xs=[]:=abZ h1
  exact⟨none,0,rfl,AS _,abc _,rfl,Sl.nil _ _,fun a ha=>by cases ha⟩
 ·refine⟨some ⟨g,0,none⟩,cap,rfl,hc,hm,h1.symm,?_,fun a ha=>by cases ha;exact⟨hb,rfl⟩⟩
  intro j u hu;refine⟨g,0,rfl,adu hh,?_⟩;rw[abU,cell_of_row w g j cur e fz hh];have hj:j<xs.length:=(abA.1 hu).1;rw[<-ht,agS (by omega)]at hu;rw[<-acP];exact hu
end
section
variable {P:Program} (w:AI)
theorem sO.bytes(e:abW)(s:ByteArray)(hs:s.size<=abi)(fz:Nat)(Z6:(bytesRow s (grownCap w s.size 0 e)).size<=fz):
  sO (w.drew.alloc (.cells (bytesRow s (grownCap w s.size 0 e)) e (fz,fz+1))) w.heap.size e (.slice (some ⟨w.heap.size,0,none⟩) s.size (grownCap w s.size 0 e)) s.size (s.data.toList.map fun c=> .int .u8 c.toNat):=by
 have yt:=grownCap_ge w s.size 0 e;have dC:grownCap w s.size 0 e<=abi:=grownCap_le_maxLen w s.size 0 e hs;refine⟨by rw[List.length_map];rfl,.inr ⟨w.heap.size,_,_,_,rfl,AS _,heap_alloc_new w.drew _,.inr Z6,yt,dC,?_,?_⟩⟩
 ·simp[bytesRow]
  have:s.size=s.data.size:=rfl;omega
 ·simp[bytesRow]
end
end Go.Proofs.YtjbcbnemdhbhbaaGreatDoor
namespace Go.Proofs.YtjbcbnemdhbhbaaGreatDoor
open Go.Proofs.Tryz
open Go.RowKit
open Go.PlainAid
theorem EF(n c:Nat)(hc:c<256):n*256 ||| c=n*256+c:=by
 have h:=Nat.two_pow_add_eq_or_of_lt (i:=8) (b:=c) (by simpa using hc) n;have e:(2:Nat) ^ 8*n=n*256:=by omega
 rw[e]at h;exact h.symm
def Holds (w:AI) (e:aci) (w':AI):Prop:=e= .returned (.bool true)/\No w.heap.size w w'
def gb (q:Bool) (w:AI) (e:aci) (w':AI):Prop:=e= .returned (.bool q)/\No w.heap.size w w'
def gP (s:ByteArray) (w:AI) (e:aci) (w':AI):Prop:=e= .returned (.string s)/\No w.heap.size w w'
theorem dZ{q q':Bool}{w w':AI}(h:q=q')(hb:No w.heap.size w w'):gb q w (.returned (.bool q')) w':=by subst h;exact⟨rfl,hb⟩
theorem mQ{q q':ByteArray}{w w':AI}(h:q=q')(hb:No w.heap.size w w'):gP q w (.returned (.string q')) w':=by subst h;exact⟨rfl,hb⟩
theorem af{w w':AI}{g:Nat}{t:abW}{cs:Array IS}(h:Bk w g t cs)(hb:No w.heap.size w w'):Bk w' g t cs:=(hb.block g h.lt).trans h
theorem YY{W w1:AI}(hb:No W.heap.size W w1):(∀b o,b<W.heap.size->w1.cell? ⟨b,o,none⟩=W.cell? ⟨b,o,none⟩)/\(∀b o,b<W.heap.size->w1.frozen? ⟨b,o,none⟩=W.frozen? ⟨b,o,none⟩):=
 ⟨fun b o h=>hb.cell (p:=⟨b,o,none⟩) h,fun b o h=>hb.frozen (p:=⟨b,o,none⟩) h⟩
theorem Bk.four{w:AI}{g:Nat}{t:abW}{c0 c1 c2 c3:IS}(h:Bk w g t #[c0,c1,c2,c3]):
  w.cell? ⟨g,0,none⟩=some c0/\w.cell? ⟨g,1,none⟩=some c1/\w.cell? ⟨g,2,none⟩=some c2/\w.cell? ⟨g,3,none⟩=some c3:=
 ⟨by simpa using h.cell 0,by simpa using h.cell 1,by simpa using h.cell 2,by simpa using h.cell 3⟩
theorem Bk.oH{w:AI}{g:Nat}{t:abW}{c0 c1 c2 c3 c4:IS}(h:Bk w g t #[c0,c1,c2,c3,c4]):
  w.cell? ⟨g,0,none⟩=some c0/\w.cell? ⟨g,1,none⟩=some c1/\w.cell? ⟨g,2,none⟩=some c2/\w.cell? ⟨g,3,none⟩=some c3/\w.cell? ⟨g,4,none⟩=some c4:=
 ⟨by simpa using h.cell 0,by simpa using h.cell 1,by simpa using h.cell 2,by simpa using h.cell 3,by simpa using h.cell 4⟩
theorem rE{r:ByteArray}{l:List UInt8}(h:r.data.toList=l):r=⟨l.toArray⟩:=by subst h;rfl
theorem jA{a b:ByteArray}(h:a.data.toList=b.data.toList):a=b:=by rw[rE h]
theorem cA(l:List UInt8):(⟨l.toArray⟩:ByteArray).size=l.length:=by simp[ByteArray.size]
theorem bY(s:ByteArray):s.data.toList.length=s.size:=rfl
theorem cV(s:ByteArray)(a b:Nat):(s.extract a b).data.toList=(s.data.toList.drop a).take (b-a):=by
 rw[ByteArray.data_extract,Array.toList_extract,List.extract_eq_take_drop]
theorem aS(a b:ByteArray):(a++b).data.toList=a.data.toList++b.data.toList:=by
 rw[ByteArray.data_append,Array.toList_append]
def kX (l:List UInt8):List IS:=l.map fun c=> .int .u8 c.toNat
theorem GR(a b:List UInt8):kX (a++b)=kX a++kX b:=by simp[kX]
theorem gn(g j:Nat):(⟨g,0,none⟩:acn).add j=⟨g,j,none⟩:=by
 unfold Addr.add;by_cases h0:j=0<;>simp[h0]
theorem yB:(prog.info? 5).map (fun i=>(i.zero,i.size,i.bytes))=some (some (.int .u8 0),1,1):=by kernel_rfl
theorem ny{W:AI}{g o n cap:Nat}{L:List UInt8}(hn:n=L.length)(h:∀j (hj:j<L.length),W.cell? ⟨g,o+j,none⟩=some (.int .u8 (L[j].toNat:Int))):
  (convert 36 9 (.slice (some ⟨g,o,none⟩) n cap)).run prog W= .ok (.string ⟨L.toArray⟩) W:=by
 have h1:=run_convert_bytes_arg W 36 5 underlying36 underlying5 g o n cap (L.map fun c=>(c.toNat:Int)) (by simp[hn]) (fun i hi=>by
  rw[h i (by omega)];rw[List.getD_eq_getElem?_getD,acz,aaG (by omega)];rfl) 9 underlying9
 rw[h1];have e:strOfNums (L.map fun c=>(c.toNat:Int))=⟨L.toArray⟩:=by
  apply rE;rw[strOfNums_data,List.map_map];have:(fun n:Int=>UInt8.ofNat n.toNat) ∘ (fun c:UInt8=>(c.toNat:Int))=id:=by
   funext c
   simp
  rw[this,List.map_id]
 rw[e]
theorem oE{W:AI}{B g n cap:Nat}{L:List UInt8}(h:W.ownsRow B 5 1 (.slice (some ⟨g,0,none⟩) n cap) L.length (kX L)):
  (convert 36 9 (.slice (some ⟨g,0,none⟩) n cap)).run prog W= .ok (.string ⟨L.toArray⟩) W:=by
 have hn:n=L.length:=by
  rcases h.2 with⟨h0,_⟩|⟨g',DA,cur,h0,_⟩
  ·cases h0
  ·injection h0
 refine ny hn fun j hj=> ?_;have h1:=h.cells (g:=g) rfl j (.int .u8 (L[j].toNat:Int)) (by
  unfold kX;rw[acz,aaG hj];rfl)
 rw[gn]at h1;rw[abU];exact h1
theorem LA(W:AI)(b0:Nat)(A:Option acn)(c:Nat)(l:List UInt8)(h:W.ownsRow b0 5 1 (.slice A l.length c) l.length (kX l))(h0:0<l.length):
  (convert 36 9 (.slice A l.length c)).run prog W= .ok (.string ⟨l.toArray⟩) W:=by
 obtain⟨g,cap,hv,_,aI⟩:=h.form (by simpa[kX]using h0);simp only[Value.slice.injEq]at hv;obtain⟨hA,_,hc⟩:=hv;subst hA;subst hc;exact oE h
theorem DC(b:ByteArray)(hb:b.size<=abi)(W:AI):∃(A:Option acn) (cap:Nat) (W1:AI),(convert 9 36 (.string b)).run prog W= .ok (.slice A b.size cap) W1/\sO W1 W.heap.size 5 (.slice A b.size cap) b.size (kX b.data.toList)/\No W.heap.size W W1:=by
 refine⟨_,_,_,run_bytes_of_string (P:=prog) W 9 36 5 b underlying9 underlying36 underlying5,sO.bytes W 5 b hb _ (AS _),?_⟩;exact((IN _ _).drew).alloc (AS _) _
end Go.Proofs.YtjbcbnemdhbhbaaGreatDoor
namespace Go.Proofs.YtjbcbnemdhbhbaaGreatDoor
open Go.Proofs.Tryz
structure Rw where
 A:Option acn
 n:Nat
 c:Nat
def Rw.val (r:Rw):IS:= .slice r.A r.n r.c
def Rw.none:Rw:=⟨Option.none,0,0⟩
end Go.Proofs.YtjbcbnemdhbhbaaGreatDoor
namespace Go.Proofs.YtjbcbnemdhbhbaaGreatDoor
open Go.Proofs.Tryz
open Go.RowKit
def pT {α :Type} (At:AI->(Nat->Prop)-> α ->List IS->Prop):Prop:=
 ∀ {w w':AI} {S T:Nat->Prop},w.heap.size<=w'.heap.size->(∀b,S b->b<w.heap.size->w'.heap[b]? =w.heap[b]?)->(∀b,S b->b<w.heap.size->T b)->∀d c,At w S d c->At w' T d c
def fR {α :Type} (k:Nat) (At:AI->(Nat->Prop)-> α ->List IS->Prop) (w:AI) (S:Nat->Prop) (r:Rw) (ds:List α):Prop:=
 r.n=ds.length/\r.n<=r.c/\r.c<=abi/\∀(i:Nat) (d: α),ds[i]? =some d->∃(b o:Nat) (c:List IS),r.A=some ⟨b,o,none⟩/\(S b/\b<w.heap.size)/\c.length=k/\
  (∀(j:Nat) (u:IS),c[j]? =some u->w.cell? ⟨b,o+i*k+j,none⟩=some u)/\At w S d c
theorem fR.nil{α :Type}{k:Nat}{At:AI->(Nat->Prop)-> α ->List IS->Prop}(w:AI)(S:Nat->Prop):fR k At w S Rw.none []:=
 ⟨rfl,AS _,abc _,fun i d h=>by simp at h⟩
theorem fR.keep{α :Type}{k:Nat}{At:AI->(Nat->Prop)-> α ->List IS->Prop}(hA:pT At){w w':AI}{S T:Nat->Prop}{r:Rw}{ds:List α}(h:fR k At w S r ds)
  (hs:w.heap.size<=w'.heap.size) (hk:∀b,S b->b<w.heap.size->w'.heap[b]? =w.heap[b]?) (hT:∀b,S b->b<w.heap.size->T b):fR k At w' T r ds:=by
 obtain⟨h1,h2,h3,h4⟩:=h;refine⟨h1,h2,h3,fun i d hd=> ?_⟩;obtain⟨b,o,c,q1,q2,q3,q4,q5⟩:=h4 i d hd;refine⟨b,o,c,q1,⟨hT b q2.1 q2.2,aaf q2.2 hs⟩,q3,fun j u hu=> ?_,hA hs hk hT d c q5⟩;exact(acq (a:=⟨b,o+i*k+j,none⟩) (hk b q2.1 q2.2)).trans (q4 j u hu)
theorem iZ{k:Nat}:∀(css:List (List IS)),(∀c∈css,c.length=k)->∀(i:Nat) (c:List IS),css[i]? =some c->∀j,j<k->css.flatten[i*k+j]? =c[j]?
 | [],_,i,c,h,_,_=>by simp at h
 | x::css,hl,i,c,h,j,hj=>by
  have hx:x.length=k:=hl x (by simp);cases i with
  | zero=>
   obtain rfl:x=c:=by simpa using h
   rw[Nat.zero_mul,abU,List.flatten_cons,acr (by omega)]
  | succ i=>
   have:=iZ css (fun c hc=>hl c (by simp[hc])) i c (by simpa using h) j hj;rw[List.flatten_cons,List.getElem?_append_right (by rw[hx,Nat.add_mul];omega),<-this]
   congr 1
   rw[hx,Nat.add_mul];omega
def GZ {α :Type} (E:abW) (k:Nat) (At:AI->(Nat->Prop)-> α ->List IS->Prop) (w:AI) (B:Nat) (v:IS) (ds:List α):Prop:=
 ∃css:List (List IS),css.length=ds.length/\(∀c∈css,c.length=k)/\w.ownsRow B E k v ds.length css.flatten/\
  ∀(i:Nat) (d: α) (c:List IS),ds[i]? =some d->css[i]? =some c->At w (fun b=>B<=b/\v.ownBlock≠some b) d c
section
variable {α :Type} {E:abW} {k:Nat} {At:AI->(Nat->Prop)-> α ->List IS->Prop}
theorem GZ.keep(hA:pT At){w w':AI}{B:Nat}{v:IS}{ds:List α}(h:GZ E k At w B v ds)(hs:w.heap.size<=w'.heap.size)(hk:∀b,B<=b->b<w.heap.size->w'.heap[b]? =w.heap[b]?):GZ E k At w' B v ds:=by
 obtain⟨css,h1,h2,h3,h4⟩:=h;refine⟨css,h1,h2,?_,fun i d c hd hc=>hA hs (fun b hb aI=>hk b hb.1 aI) (fun _ h _=>h) d c (h4 i d c hd hc)⟩;obtain⟨a1,a2⟩:=h3;refine⟨a1,?_⟩;rcases a2 with a2|⟨g,cap,cur,rfl,hb,hh,r⟩
 ·exact agN a2
 ·exact Or.inr ⟨g,cap,cur,rfl,hb,(hk g hb (adu hh)).trans hh,r⟩
theorem GZ.row(hA:pT At){w:AI}{B:Nat}{v:IS}{ds:List α}(h:GZ E k At w B v ds):∃r:Rw,v= .slice r.A r.n r.c/\fR k At w (fun b=>B<=b) r ds:=by
 obtain⟨css,h1,h2,h3,h4⟩:=h;obtain⟨hl,hr⟩:=h3;rcases hr with⟨rfl,hn⟩|⟨g,cap,cur,rfl,hb,hh,hc,hm,fu,ey⟩
 ·obtain rfl:ds=[]:=abZ hn
  exact⟨Rw.none,rfl,fR.nil _ _⟩
 ·refine⟨⟨some ⟨g,0,none⟩,ds.length,cap⟩,rfl,rfl,by show ds.length<=cap;omega,hm,fun i d hd=> ?_⟩
  have hi:i<ds.length:=(abA.1 hd).1;obtain⟨c,Vf⟩:∃c,css[i]? =some c:=⟨css[i]'(by omega),aaG (by omega)⟩;have F3:=h2 c (List.mem_of_getElem? Vf);refine⟨g,0,c,rfl,⟨hb,adu hh⟩,F3,fun j u hu=> ?_,hA (AS _) (fun _ _ _=>rfl) (fun _ h _=>h.1) _ _ (h4 i d c hd Vf)⟩;have hj:j<k:=by rw[<-F3];exact(abA.1 hu).1
  rw[cell_of_row w g _ cur _ (0,0) hh,abU];have hf:=iZ css h2 i c Vf j hj;rw[hu]at hf;have aI:i*k+j<css.flatten.length:=(abA.1 hf).1;rw[<-ey,agS (by omega)]at hf;rw[<-acP];exact hf
end
end Go.Proofs.YtjbcbnemdhbhbaaGreatDoor
namespace Go.Proofs.YtjbcbnemdhbhbaaGreatDoor
open Go.Proofs.Tryz
namespace Be
def low (n:Nat):Nat->List UInt8
 | 0=>[]
 | k+1=>UInt8.ofNat (n/256 ^ k%256)::low n k
def num (l:List UInt8):Nat:=l.foldl (fun n c=>n*256+c.toNat) 0
theorem aq(n k:Nat):(low n k).length=k:=by
 induction k with
 | zero=>rfl
 | succ k ih=>simp[low,ih]
theorem LO(l:List UInt8):∀a,l.foldl (fun n c=>n*256+c.toNat) a=a*256 ^ l.length+num l:=by
 induction l with
 | nil=>intro a;simp[num]
 | cons c l ih=>
  intro a;unfold num;simp only[List.foldl_cons,abB];rw[ih,ih (0*256+c.toNat),agf];simp[Nat.add_mul,Nat.mul_assoc,Nat.mul_comm 256,Nat.add_assoc]
theorem BH(c:UInt8)(l:List UInt8):num (c::l)=c.toNat*256 ^ l.length+num l:=by
 have:=LO l (0*256+c.toNat);simpa[num]using this
theorem Nq(c:UInt8)(l:List UInt8):num (l++[c])=num l*256+c.toNat:=by unfold num;rw[List.foldl_append];rfl
theorem Np(l:List UInt8):num l<256 ^ l.length:=by
 induction l with
 | nil=>simp[num]
 | cons c l ih=>
  rw[BH,abB,agf];have hc:=c.toNat_lt;have:c.toNat*256 ^ l.length<=255*256 ^ l.length:=Nat.mul_le_mul_right _ (by omega);omega
theorem Rl(n k:Nat):num (low n k)=n%256 ^ k:=by
 induction k with
 | zero=>simp[low,num,Nat.mod_one]
 | succ k ih=>
  unfold low;rw[BH,aq,ih];have e:(UInt8.ofNat (n/256 ^ k%256)).toNat=n/256 ^ k%256:=by rw[UInt8.toNat_ofNat'];omega
  rw[e,agf,Nat.mod_mul];rw[Nat.mul_comm,Nat.add_comm]
theorem cq(n k:Nat)(h:n<256 ^ k):num (low n k)=n:=by rw[Rl,Nat.mod_eq_of_lt h]
theorem LF(n j:Nat):n/256 ^ j/256=n/256 ^ (j+1):=by rw[Nat.div_div_eq_div_mul,agf]
end Be
end Go.Proofs.YtjbcbnemdhbhbaaGreatDoor
namespace Go.Proofs.YtjbcbnemdhbhbaaGreatDoor
open Go.Proofs.Tryz
open Go.RowKit
structure Ce where
 key:ByteArray
 val:ByteArray
 over:Nat
 size:Nat
 child:Nat
def Ce.zero:Ce:=⟨⟨#[]⟩,⟨#[]⟩,0,0,0⟩
def Ce.eH (c:Ce):List IS:=[.string c.key,.string c.val,.int .i64 c.over,.int .i64 c.size,.int .i64 c.child]
def GX (w:AI) (S:Nat->Prop) (c:Ce) (vs:List IS):Prop:=vs=c.eH
theorem lC:pT GX:=fun _ _ _ d c h=>h
def aV (w:AI) (S:Nat->Prop) (r:Rw) (l:List Ce):Prop:=fR 5 GX w S r l
namespace Nd
def size (leaf:Bool) (c:Ce):Nat:=if leaf then (if 0<c.over then 4+c.key.size+9 else 4+c.key.size+3+c.val.size)else 4+c.key.size+4
def sum (leaf:Bool) (l:List Ce):Nat:=2+(l.map (size leaf)).sum
def aY (c:Ce):Bool:=0<c.key.size&&c.key.size<=120&&c.child==0&&(if c.over=0 then c.size==0&&c.val.size<=96 else c.val.size==0&&c.over<512&&96<c.size&&c.size<=4000)
def cy (c:Ce):Bool:=c.key.size<=120&&1<=c.child&&c.child<512&&c.val.size==0&&c.over==0&&c.size==0
def aP (leaf:Bool) (c:Ce):Bool:=if leaf then aY c else cy c
theorem lZ:∀a:List UInt8,acm a a=false
 | []=>rfl
 | a::l=>by simp[acm,lZ l]
theorem tT:∀ {a b c:List UInt8},acm a b=true->acm b c=true->acm a c=true
 | _,[],_,h,_=>by cases ‹List UInt8› <;>simp[acm]at h
 | _,_::_,[],_,h=>by simp[acm]at h
 | [],_::_,_::_,_,_=>rfl
 | x::a,y::b,z::c,h1,h2=>by
  simp only[acm,Bool.or_eq_true,abM,decide_eq_true_eq,beq_iff_eq]at h1 h2 |-;rcases h1 with h1|⟨rfl,h1⟩
  ·rcases h2 with h2|⟨rfl,h2⟩
   ·exact .inl (UInt8.lt_trans h1 h2)
   ·exact .inl h1
  ·rcases h2 with h2|⟨rfl,h2⟩
   ·exact .inl h2
   ·exact .inr ⟨rfl,tT h1 h2⟩
theorem tS:∀(a b:List UInt8),acm a b=true\/a=b\/acm b a=true
 | [],[]=> .inr (.inl rfl)
 | [],_::_=> .inl rfl
 | _::_,[]=> .inr (.inr rfl)
 | x::a,y::b=>by
  simp only[acm,Bool.or_eq_true,abM,decide_eq_true_eq,beq_iff_eq,List.cons.injEq];rcases tS a b with h|h|h<;>by_cases e:x=y
  ·exact .inl (.inr ⟨e,h⟩)
  ·rcases UInt8.lt_or_lt_of_ne e with h1|h1
   ·exact .inl (.inl h1)
   ·exact .inr (.inr (.inl h1))
  ·exact .inr (.inl ⟨e,h⟩)
  ·rcases UInt8.lt_or_lt_of_ne e with h1|h1
   ·exact .inl (.inl h1)
   ·exact .inr (.inr (.inl h1))
  ·exact .inr (.inr (.inr ⟨e.symm,h⟩))
  ·rcases UInt8.lt_or_lt_of_ne e with h1|h1
   ·exact .inl (.inl h1)
   ·exact .inr (.inr (.inl h1))
def lt (a b:ByteArray):Bool:=acm a.toList b.toList
theorem gx{a b:ByteArray}(h:a.toList=b.toList):a=b:=by
 rw[abY,abY]at h;obtain⟨⟨a⟩⟩:=a;obtain⟨⟨b⟩⟩:=b;simp only at h;subst h;rfl
theorem lt_irrefl(a:ByteArray):lt a a=false:=lZ _
theorem lt_trans{a b c:ByteArray}(h1:lt a b=true)(h2:lt b c=true):lt a c=true:=tT h1 h2
theorem lt_asymm{a b:ByteArray}(h:lt a b=true):lt b a=false:=by
 cases h2:lt b a with
 | false=>rfl
 | true=>have:=lt_trans h h2;rw[lt_irrefl]at this;cases this
theorem iF(a b:ByteArray):lt a b=true\/a=b\/lt b a=true:=by
 rcases tS a.toList b.toList with h|h|h
 ·exact .inl h
 ·exact .inr (.inl (gx h))
 ·exact .inr (.inr h)
theorem BB{a b:ByteArray}(h:lt a b=true):(a.toList==b.toList)=false/\(b.toList==a.toList)=false:=by
 constructor
 ·rw[beq_eq_false_iff_ne];intro e;rw[gx e,lt_irrefl]at h;cases h
 ·rw[beq_eq_false_iff_ne];intro e;rw[gx e,lt_irrefl]at h;cases h
def rise:List Ce->Bool
 | []=>true
 | [_]=>true
 | a::b::l=>lt a.key b.key&&rise (b::l)
theorem sB:∀ {l:List Ce},rise l=true->∀(i:Nat) (h:i+1<l.length),lt (l[i]'(by omega)).key l[i+1].key=true
 | [],_,i,h=>by simp at h
 | [_],_,i,h=>by simp at h
 | a::b::l,hr,i,h=>by
  simp only[rise,abM]at hr;cases i with
  | zero=>exact hr.1
  | succ i=>exact sB hr.2 i (by simpa using h)
def right (leaf:Bool) (l:List Ce):Bool:=(leaf||(match l with|[]=>false|c::_=>c.key.size==0))&&(l.all (aP leaf)&&rise l)
def bytes (leaf:Bool) (c:Ce):List UInt8:=
 Be.low c.key.size 2++c.key.data.toList++
  (if leaf then (if 0<c.over then 1::(Be.low c.over 4++Be.low c.size 4)else 0::(Be.low c.val.size 2++c.val.data.toList))else Be.low c.child 4)
def tail (leaf:Bool) (l:List Ce):List UInt8:=(l.map (bytes leaf)).flatten
def slots (leaf:Bool) (l:List Ce) (first:Nat):Nat->List UInt8
 | 0=>[]
 | k+1=>slots leaf l first k++Be.low (first+(tail leaf (l.take k)).length) 2
def enc (leaf:Bool) (l:List Ce):List UInt8:=Be.low l.length 2++slots leaf l (2+2*l.length) l.length++tail leaf l
theorem pU(leaf:Bool)(c:Ce):(bytes leaf c).length+2=size leaf c:=by
 unfold bytes size;have e:∀s:ByteArray,s.data.toList.length=s.size:=fun _=>rfl;cases leaf
 ·simp only[BY,Be.aq,e,adh,if_false]
  omega
 ·simp only[if_true]
  split
  ·simp only[BY,abB,Be.aq,e]
   omega
  ·simp only[BY,abB,Be.aq,e]
   omega
theorem tail_cons(leaf:Bool)(c:Ce)(l:List Ce):tail leaf (c::l)=bytes leaf c++tail leaf l:=by simp[tail]
theorem py(leaf:Bool)(a b:List Ce):tail leaf (a++b)=tail leaf a++tail leaf b:=by simp[tail]
theorem pz(leaf:Bool):∀l:List Ce,(tail leaf l).length+2*l.length=(l.map (size leaf)).sum
 | []=>by simp[tail]
 | c::l=>by
  have h:=pz leaf l;have h2:=pU leaf c;rw[tail_cons,BY,acp,List.sum_cons,abB];omega
theorem gi(leaf:Bool)(l:List Ce)(first:Nat):∀k,(slots leaf l first k).length=2*k
 | 0=>rfl
 | k+1=>by rw[slots,BY,gi leaf l first k,Be.aq];omega
theorem P6(leaf:Bool)(l:List Ce):(enc leaf l).length=sum leaf l:=by
 have h:=pz leaf l;unfold enc sum;rw[BY,BY,Be.aq,gi];omega
theorem size_le{leaf:Bool}{c:Ce}(h:aP leaf c=true):8<=size leaf c/\size leaf c<=223:=by
 unfold aP at h;unfold size;cases leaf
 ·simp only[adh,if_false,cy,abM,decide_eq_true_eq]at h |-
  omega
 ·simp only[if_true,aY,abM,decide_eq_true_eq]at h |-
  obtain⟨⟨⟨h1,h2⟩,h3⟩,h4⟩:=h;split
  ·next ho=>rw[if_neg (by omega)]at h4;simp at h4;omega
  ·next ho=>rw[if_pos (by omega)]at h4;simp at h4;omega
theorem xu(leaf:Bool)(l:List Ce)(first:Nat):∀(k i:Nat),i<k->((slots leaf l first k).drop (2*i)).take 2=Be.low (first+(tail leaf (l.take i)).length) 2
 | k+1,i,h=>by
  rw[slots];have hl:=gi leaf l first k;by_cases hi:i<k
  ·rw[List.drop_append_of_le_length (by omega),List.take_append_of_le_length (by rw[List.length_drop];omega)]
   exact xu leaf l first k i hi
  ·obtain rfl:i=k:=by omega
   rw[List.drop_append,acF (by omega),hl,adn,agd,List.drop_zero,abI (by rw[Be.aq];omega)]
end Nd
end Go.Proofs.YtjbcbnemdhbhbaaGreatDoor
namespace Go.Proofs.YtjbcbnemdhbhbaaGreatDoor
open Go.Proofs.Tryz
open Go.RowKit
open Go.PlainAid
def cU (s:ByteArray) (n:Int) (w:AI) (e:aci) (w':AI):Prop:=e= .returned (.tuple #[.string s,.int .i64 n])/\No w.heap.size w w'
theorem uA{q q':ByteArray}{n:Int}{w w':AI}(h:q=q')(hb:No w.heap.size w w'):cU q n w (.returned (.tuple #[.string q',.int .i64 n])) w':=by subst h;exact⟨rfl,hb⟩
def putCells (n k i:Nat):Array IS:=(abQ i (acK .u8 0)++kX (Be.low n (k-i))).toArray
theorem vD(n k m:Nat)(h:m<k):(putCells n k (m+1)).setIfInBounds m (.int .u8 ((n/256 ^ (k-(m+1)):Nat)%256:Int))=putCells n k m:=by
 unfold putCells;have e:k-m=(k-(m+1))+1:=by omega
 rw[e];show _=(abQ m (acK .u8 0)++(acK .u8 ((UInt8.ofNat (n/256 ^ (k-(m+1))%256)).toNat)::kX (Be.low n (k-(m+1))))).toArray;rw[List.replicate_succ',List.append_assoc,List.setIfInBounds_toArray,List.set_append_right _ _ (by simp)];simp
theorem Wq(k:Nat)(h:k<=8):256 ^ k<=18446744073709551616:=abE (afn (by decide) h) (by decide)
theorem Q6(k n:Nat):madeCells #[acK .u8 0] k=putCells n k k:=by
 unfold putCells;rw[agd];apply Array.ext
 ·simp[madeCells,kX,Be.low]
 ·intro i h1 h2
  simp[madeCells,kX,Be.low];rw[Nat.mod_one];rfl
def Sq (w:AI) (n k i:Nat) (wr:AI):Prop:=i<=k/\Bk wr w.heap.size 5 (putCells n k i)/\No w.heap.size w wr
theorem BW(n k m:Nat):(putCells n k (m+1))[m]? =some (.int .u8 0):=by
 unfold putCells;rw[List.getElem?_toArray,acr (by simp),List.getElem?_replicate,if_pos (by omega)]
theorem yM(n k:Nat)(w:AI)(W:AI)(h:Bk W w.heap.size 5 (putCells n k 0)):
  (convert 36 9 (.slice (some ⟨w.heap.size,0,none⟩) k k)).run prog W= .ok (.string ⟨(Be.low n k).toArray⟩) W:=by
 refine ny (by rw[Be.aq]) fun j hj=> ?_;rw[abU,h.cell j];unfold putCells;rw[List.getElem?_toArray,List.replicate_zero,adn,Nat.sub_zero];unfold kX;rw[acz,aaG hj];rfl
theorem gR(s:ByteArray)(n k:Nat)(w:AI)(hs:s.size<=1000000)(h1:1<=k)(h8:k<=8)(hn:n<256 ^ k):
  Calls prog 160 #[.string s,.int .u64 n,.int .i64 k] w (cU (s++⟨(Be.low n k).toArray⟩) 0 w):=by
 have aaz:n<18446744073709551616:=aaf hn (Wq k h8);have IH:=run_make_row' (P:=prog) 36 5 (.int .u8 0) 1 underlying36 yB rfl .i64 .i64 k (by omega) (by omega) w;rw[Q6 k n]at IH;have HS:=sh (show Sq w n k k (w.alloc (.cells (putCells n k k) 5)) from ⟨AS _,Bk.new _ _ _,(IN _ _).alloc (AS _) _⟩);have q1:decide ((k:Int)<1)=false:=by simp;omega
 have q2:decide (8<(k:Int))=false:=by simp;omega
 have hq:(k<8/\decide ((k:Int)<8)=true/\(n:Int)/2 ^ (8*k)=0)\/(¬ k<8/\decide ((k:Int)<8)=false):=by
  by_cases Qy:k<8
  ·refine agN ⟨Qy,by simp;omega,?_⟩
   have e:(2:Nat) ^ (8*k)=256 ^ k:=by rw[Nat.pow_mul]
   have:=Nat.div_eq_of_lt (show n<2 ^ (8*k)by rw[e];exact hn)
   exact_mod_cast this
  ·exact Or.inr ⟨Qy,by simp;omega⟩
 have ajC:=sh aaz;clear hn aaz;rcases hq with⟨Qy,q3,e3⟩|⟨Qy,q3⟩;all_goals
  go_enter func160,ntmps160
  go_wp2_with fail
  go_loopw [1,9] (fun x i wr=>∃(j:Nat),i= .int .i64 ((j:Int)-1)/\x= .int .u64 ((n/256 ^ (k-j):Nat))/\Sq w n k j wr) (fun _ i _=>(intOf i+1).toNat)
  case atStart=>exact⟨k,rfl,by rw[agd];simp,HS.out⟩
  case round=>
   clear HS IH;obtain⟨j,rfl,rfl,hj,hb,gH⟩:=hrel;cases j with
   | zero=>
    have L6:=yM n k w wr hb;have e:(((0:Nat):Int)-1)= -1:=by omega
    rw[e];have cZ:(⟨(Be.low n k).toArray⟩:ByteArray).size<=8:=by rw[cA,Be.aq];exact h8
    generalize (⟨(Be.low n k).toArray⟩:ByteArray)=ls at *;clear e hb;go_wp2_with fail
    go_ret2
    exact uA rfl gH
   | succ m=>
    have e:(((m+1:Nat):Int)-1)=m:=by omega
    rw[e];have hc:=hb.cell m;rw[BW n k m]at hc;have hf:=hb.frozen m;have HB:=sh (hb.put m (.int .u8 ((n/256 ^ (k-(m+1)):Nat)%256:Int)));have j5:=sh (vD n k m (by omega));have HL:=sh gH;have HD:=sh (show n/256 ^ (k-(m+1))/256=n/256 ^ (k-m)by rw[Be.LF];congr 2;omega);clear e hb gH;generalize n/256 ^ (k-(m+1))=x at *;go_wp2_with fail
    go_roundw
    case rel=>exact⟨m,by go_num,by rw[<-HD.out];go_num,by omega,by rw[<-j5.out];exact HB.out,HL.out.setCell (AS _) _⟩
    case measure=>simp[intOf]
def ai (s:ByteArray) (p k:Nat):Nat:=Be.num ((s.data.toList.drop p).take k)
def fB (n:Nat) (w:AI) (e:aci) (w':AI):Prop:=e= .returned (.tuple #[.int .u64 n,.int .i64 0])/\No w.heap.size w w'
theorem Fh{n:Nat}{z:Int}{w w':AI}(h:(n:Int)=z)(hb:No w.heap.size w w'):fB n w (.returned (.tuple #[.int .u64 z,.int .i64 0])) w':=by subst h;exact⟨rfl,hb⟩
theorem Ro(n c:Nat)(hn:n<72057594037927936)(hc:c<256):bits .or .u64 ((n:Int)*256) (c:Int)=((n*256+c:Nat):Int):=by
 have h:=u64_or_nat (n*256) c (by omega) (by omega);rw[EF n c hc]at h;rw[<-h]
 congr 1
theorem BI(l:List UInt8)(j:Nat)(hj:j<=7):Be.num (l.take j)<72057594037927936:=by
 have h:=Be.Np (l.take j);have h2:256 ^ (l.take j).length<=256 ^ 7:=afn (by decide) (by rw[List.length_take];omega);have h3:256 ^ 7=72057594037927936:=by decide
 omega
theorem vC(l:List UInt8)(j:Nat)(h:j<l.length):Be.num (l.take (j+1))=Be.num (l.take j)*256+l[j].toNat:=by
 rw[List.take_succ_eq_append_getElem h,Be.Nq]
theorem fK(s:ByteArray)(p k:Nat)(w:AI)(hs:s.size<=1000000)(h1:1<=k)(h8:k<=8)(hp:p+k<=s.size):
  Calls prog 120 #[.string s,.int .i64 p,.int .i64 k] w (fB (ai s p k) w):=by
 have q1:decide ((k:Int)<1)=false:=by simp;omega
 have q2:decide (8<(k:Int))=false:=by simp;omega
 have q3:decide ((p:Int)<0)=false:=by simp
 have q4:p<=s.size:=by omega
 have q5:decide ((s.size:Int)-p<k)=false:=by simp;omega
 have q6:decide (s.size<p)=false:=by simp;omega
 have hl:(s.extract p (p+k)).data.toList=(s.data.toList.drop p).take k:=by rw[cV];congr 1;omega
 have cZ:(s.extract p (p+k)).size=k:=by rw[ByteArray.size_extract];omega
 have HE:=sh (show ai s p k=Be.num (s.extract p (p+k)).data.toList by unfold ai;rw[hl]);obtain⟨A,cap,W1,L6,au,ar⟩:=DC (s.extract p (p+k)) (by rw[cZ];unfold abi;omega) w;rw[cZ]at L6 au;obtain⟨A2,c2,F1,-,-,-,fF,-⟩:=au.slice;simp only[Value.slice.injEq,true_and]at F1;obtain⟨rfl,rfl⟩:=F1;have hlen:(s.extract p (p+k)).data.toList.length=k:=by rw[bY,cZ]
 have HB:=sh ar;have HS:=sh fF;have Pr:=sh hlen;generalize (s.extract p (p+k)).data.toList=l at *;clear hl cZ au ar fF hlen;go_enter func120,ntmps120
 go_wp2_with fail
 clear L6
 go_loop [8,43] (fun x i=>∃(j:Nat),i= .int .i64 j/\x= .int .u64 (Be.num (l.take j):Nat)/\j<=k) (fun _ i=>k-(intOf i).toNat)
 case atStart=>exact⟨0,rfl,by simp[Be.num],abc _⟩
 case round=>
  obtain⟨j,rfl,rfl,hj⟩:=hrel;by_cases aI:j<k
  ·have Me:j<l.length:=by rw[Pr.out];exact aI
   obtain⟨b,o,rfl,gH,hc⟩:=HS.out j (.int .u8 (l[j].toNat:Nat)) (by unfold kX;rw[acz,aaG Me];rfl);have HN:=sh (vC l j Me);have hx:=BI l j (by omega);have e1:=Ro _ _ hx (show l[j].toNat<256 by have:=l[j].toNat_lt;omega);have od:=l[j].toNat_lt;generalize Be.num (l.take j)=x at *;generalize l[j].toNat=c at *;go_wp2_with fail
   go_round
   case rel=>exact⟨j+1,by go_num,by rw[HN.out];go_num,by omega⟩
   case measure=>simp[intOf];omega
  ·obtain rfl:j=k:=by omega
   have HT:=sh (show l.take j=l from abI (by rw[Pr.out];exact AS _));go_wp2_with fail
   go_ret2
   exact Fh (by rw[HE.out,HT.out]) HB.out
end Go.Proofs.YtjbcbnemdhbhbaaGreatDoor
namespace Go.Proofs.YtjbcbnemdhbhbaaGreatDoor
open Go.Proofs.Tryz
open Go.RowKit
def fV (a b:ByteArray):Int:=if Nd.lt a b=true then -1 else if Nd.lt b a=true then 1 else 0
theorem xl(a b:ByteArray)(w:AI)(ha9:a.size<=1000000):Calls prog 203 #[.string a,.string b] w (fun e w'=>e= .returned (.int .i64 (fV a b))/\No w.heap.size w w'):=by
 have hla:a.toList.length=a.size:=by rw[abY];rfl
 have Gb:b.toList.length=b.size:=by rw[abY];rfl
 go_enter func203,ntmps203
 go_wp2_with fail
 go_loopw [5] (fun i wr=>No w.heap.size w wr/\∃j:Nat,i= .int .i64 j/\j<=a.size/\j<=b.size/\Nd.lt a b=acm (a.toList.drop j) (b.toList.drop j)/\Nd.lt b a=acm (b.toList.drop j) (a.toList.drop j)) (fun i _=>a.size-(intOf i).toNat)
 case atStart=>exact⟨IN _ _,0,rfl,abc _,abc _,rfl,rfl⟩
 case round=>
  obtain⟨hb,j,rfl,h1,h2,h3,h4⟩:=hrel;have HB:=sh hb;have H3:=sh h3;have H4:=sh h4;clear hb h3 h4;by_cases ha:j<a.size
  ·have z1:decide ((j:Int)<(a.size:Int))=true:=decide_eq_true (by omega)
   by_cases hb:j<b.size
   ·have z2:decide ((j:Int)<(b.size:Int))=true:=decide_eq_true (by omega)
    have y0:(0:Int)<=(j:Int):=by omega
    have y1:(j:Int)<(a.size:Int):=by omega
    have y2:(j:Int)<(b.size:Int):=by omega
    have da:a.toList.drop j=a[j]::a.toList.drop (j+1):=by
     rw[abP (by omega)]
     congr 1
     simp[abY];rfl
    have db:b.toList.drop j=b[j]::b.toList.drop (j+1):=by
     rw[abP (by omega)]
     congr 1
     simp[abY];rfl
    have XQ:=sh da;have KD:=sh db;obtain⟨x,hx⟩:∃x,x=a[j]:=⟨_,rfl⟩;obtain⟨y,hy⟩:∃y,y=b[j]:=⟨_,rfl⟩;rw[<-hx]at XQ;rw[<-hy]at KD;have MO:(a[j]'ha).toNat=x.toNat:=by rw[<-hx]
    have O8:(b[j]'hb).toNat=y.toNat:=by rw[<-hy]
    clear da db hx hy;rcases Nat.lt_trichotomy x.toNat y.toNat with hc|hc|hc
    ·have c1:decide ((x.toNat:Int)<(y.toNat:Int))=true:=decide_eq_true (by omega)
     have c2:decide (x.toNat<y.toNat)=true:=decide_eq_true hc;have hl:fV a b= -1:=by
      unfold fV;rw[H3.out,XQ.out,KD.out];have:x<y:=hc;simp[acm,this]
     have HL:=sh hl;clear hl hc;go_wp2_with fail
     go_quiet (fail)
     go_wp2_with fail
     go_ret
     exact⟨by rw[HL.out];rfl,below_drewN HB.out _⟩
    ·have c1:decide ((x.toNat:Int)<(y.toNat:Int))=false:=decide_eq_false (by omega)
     have c2:decide (x.toNat<y.toNat)=false:=decide_eq_false (by omega);have c3:decide ((y.toNat:Int)<(x.toNat:Int))=false:=decide_eq_false (by omega);have c4:decide (y.toNat<x.toNat)=false:=decide_eq_false (by omega);have Kp:x=y:=UInt8.toNat_inj.1 hc;have h3:Nd.lt a b=acm (a.toList.drop (j+1)) (b.toList.drop (j+1)):=by
      rw[H3.out,XQ.out,KD.out,Kp];simp[acm]
     have h4:Nd.lt b a=acm (b.toList.drop (j+1)) (a.toList.drop (j+1)):=by
      rw[H4.out,XQ.out,KD.out,Kp];simp[acm]
     have H5:=sh h3;have H6:=sh h4;clear h3 h4 hc Kp;go_wp2_with fail
     go_quiet (fail)
     go_wp2_with fail
     go_quiet (fail)
     go_wp2_with fail
     go_roundw
     case rel=>exact⟨below_drewN HB.out _,j+1,by go_num,by omega,by omega,H5.out,H6.out⟩
     case measure=>simp[intOf];omega
    ·have c1:decide ((x.toNat:Int)<(y.toNat:Int))=false:=decide_eq_false (by omega)
     have c2:decide (x.toNat<y.toNat)=false:=decide_eq_false (by omega);have c3:decide ((y.toNat:Int)<(x.toNat:Int))=true:=decide_eq_true (by omega);have c4:decide (y.toNat<x.toNat)=true:=decide_eq_true hc;have hl:fV a b=1:=by
      unfold fV;rw[H3.out,H4.out,XQ.out,KD.out];have h9:y<x:=hc;have h8:¬ x<y:=fun h=>by have:x.toNat<y.toNat:=h;omega
      have h7:¬ x=y:=fun h=>by subst h;omega
      simp[acm,h9,h8,h7]
     have HL:=sh hl;clear hl hc;go_wp2_with fail
     go_quiet (fail)
     go_wp2_with fail
     go_quiet (fail)
     go_wp2_with fail
     go_ret
     exact⟨by rw[HL.out];rfl,below_drewN (below_drewN HB.out _) _⟩
   ·have z2:decide ((j:Int)<(b.size:Int))=false:=decide_eq_false (by omega)
    have z3:decide ((a.size:Int)<(b.size:Int))=false:=decide_eq_false (by omega);have z4:decide (a.size<b.size)=false:=decide_eq_false (by omega);have z5:decide ((b.size:Int)<(a.size:Int))=true:=decide_eq_true (by omega);have z6:decide (b.size<a.size)=true:=decide_eq_true (by omega);have hl:fV a b=1:=by
     unfold fV;rw[H3.out,H4.out,acF (l:=b.toList) (by omega),abP (l:=a.toList) (by omega)];simp[acm]
    have HL:=sh hl;clear hl;go_wp2_with fail
    go_ret
    exact⟨by rw[HL.out];rfl,HB.out⟩
  ·have z1:decide ((j:Int)<(a.size:Int))=false:=decide_eq_false (by omega)
   have z5:decide ((b.size:Int)<(a.size:Int))=false:=decide_eq_false (by omega);have z6:decide (b.size<a.size)=false:=decide_eq_false (by omega);by_cases hb:j<b.size
   ·have z3:decide ((a.size:Int)<(b.size:Int))=true:=decide_eq_true (by omega)
    have z4:decide (a.size<b.size)=true:=decide_eq_true (by omega);have hl:fV a b= -1:=by
     unfold fV;rw[H3.out,acF (l:=a.toList) (by omega),abP (l:=b.toList) (by omega)];simp[acm]
    have HL:=sh hl;clear hl;go_wp2_with fail
    go_ret
    exact⟨by rw[HL.out];rfl,HB.out⟩
   ·have z3:decide ((a.size:Int)<(b.size:Int))=false:=decide_eq_false (by omega)
    have z4:decide (a.size<b.size)=false:=decide_eq_false (by omega);have hl:fV a b=0:=by
     unfold fV;rw[H3.out,H4.out,acF (l:=a.toList) (by omega),acF (l:=b.toList) (by omega)];simp[acm]
    have HL:=sh hl;clear hl;go_wp2_with fail
    go_ret
    exact⟨by rw[HL.out];rfl,HB.out⟩
end Go.Proofs.YtjbcbnemdhbhbaaGreatDoor
