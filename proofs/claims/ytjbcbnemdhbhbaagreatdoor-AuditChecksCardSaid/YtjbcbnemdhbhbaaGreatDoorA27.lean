import Derived.Test.YtjbcbnemdhbhbaaGreatDoorA23
import Derived.Test.YtjbcbnemdhbhbaaGreatDoorA18
import Derived.Test.YtjbcbnemdhbhbaaGreatDoorA0
import Derived.Shelf.SlIterI.Nil
import Derived.Shelf.SortM.Plain
import Derived.Shelf.SortM.SortNone
import Derived.Test.YtjbcbnemdhbhbaaGreatDoorA26
import Derived.Test.YtjbcbnemdhbhbaaGreatDoorA10
import Derived.Shelf.SlIter.Nil
set_option maxRecDepth 100000
set_option linter.unusedVariables false
set_option linter.unusedSimpArgs false
set_option maxHeartbeats 40000000
open Go renaming Calls→aaf,Value→No,World→AI,callsIn_wide→agd,maxLen→abj,wpList_append_lies→aea
open Go.Fence renaming wide→agp
open Go.Instr renaming lookup→acR
open Go.Lib renaming hid→sh
open Go.Maps renaming has→afE
open Go.RowKit renaming Below→IT
open Go.RowKit.Below renaming heap_alloc→agP,refl→BY
open Go.Value renaming ownBlock→aaT
open Go.World renaming news_of_block→acH
open Go.World.ownsRow renaming cells→afI,lt→abq
open List renaming append_assoc→aaa,length_append→AT,length_map→IS,length_range→adT,mem_append→By,mem_cons→OF,mem_filter→agt,mem_map→abK,mem_singleton→IN,nodup_append→aag,nodup_cons→abJ,pairwise_map→adB,perm_middle→acG,range→afG
open List.Perm renaming trans→adn
open Option renaming mem_toList→abG
open Option.some renaming inj→aek
namespace Go.Proofs.YtjbcbnemdhbhbaaGreatDoor
open Go.Proofs.Tryz
open Go.RowKit
theorem NQ{w:AI}{base:Nat}{e:TypeId}{g c:Nat}{l:List Nat}{n:Nat}(h:w.ownsRow base e 1 (.slice (some ⟨g,0,none⟩) (l.length+1) c) (l.length+1) (ints (l++[n]))):w.ownsRow base e 1 (.slice (some ⟨g,0,none⟩) l.length c) l.length (ints l):=by
 rcases h.2 with⟨h1,h2⟩|⟨g',cap,cur,h1,hb,hh,hc,hm,hs,ht⟩
 ·cases h1
 ·injection h1 with e1 e2 e3
  injection e1 with e1;injection e1 with e1 _;subst e1 e3;refine⟨by simp[ints],.inr ⟨g,c,cur,rfl,hb,hh,by omega,hm,hs,?_⟩⟩;have h3:=congrArg (List.take (l.length*1)) ht;rw[List.take_take,show min (l.length*1) ((l.length+1)*1)=l.length*1 by omega]at h3;rw[h3,fK,Nat.mul_one];exact List.take_left' (eP l)
theorem bf.turn{E:Kv}{w w':AI}{S hd hd':List Nat}{x x':Tx}{f dm nn:Nat}{Sf:List Nat}{lv fv lv' fv':No}(h:bf E w S hd x f dm nn Sf lv fv)(hc:Bk w' E.t 103 (aO E x' f dm lv' fv'))(ho:ah [E.t] w w')(bU:x'.fr=x.fr)(hdy:x'.az=x.az)
  (hl:w'.ownsRow 0 3 1 lv' x'.loose.length (ints x'.loose)) (hf:w'.ownsRow 0 3 1 fv' x'.aK.length (ints x'.aK)) (e1:lv'.ownBlock=lv.ownBlock) (e2:fv'.ownBlock=fv.ownBlock) (fA:x'.Ok E.limit E.cq E.U E.pc hd'):bf E w' S hd' x' f dm nn Sf lv' fv':=by
 have hm:aB E.t f dm Sf lv' fv'=aB E.t f dm Sf lv fv:=by unfold aB;rw[e1,e2]
 have bI:=h.nodup;have aX:∀b∈E.still,b∉[E.t]:=fun b hb hs=>by
  rw[IN]at hs;subst hs;exact h.apart _ (by simp[aB]) hb
 have wg:∀b∈dm::(lv.ownBlock.toList++(fv.ownBlock.toList++Sf)),b∉[E.t]:=fun b hb hs=>by
  rw[IN]at hs;subst hs;exact(abJ.1 bI).1 hb
 have fw:=h.db;exact⟨hc,by rw[bU];exact h.free.off ho (fun b hb=>wg b (by simp[hb])),by rw[hdy];exact h.map.off ho (wg _ (by simp)),h.nn,hl,hf,ho.bk fw (aX _ (by simp[Kv.still])),ho.bk h.rd (aX _ (by simp[Kv.still])),
  h.pg.off ho (fun b hb=>aX b (by simp[Kv.still,hb])),h.dev.off ho (fun b hb=>aX b (by simp[Kv.still,hb])),h.row.off ho (aX _ (by simp[Kv.still])),fA,by rw[hm];exact h.blocks,by rw[hm];exact bI,by rw[hm];exact h.apart⟩
def jx (E:Kv) (S:List Nat) (hd:List Nat) (x':Tx) (w w':AI):Prop:=∃(S':List Nat) (f dm nn:Nat) (Sf:List Nat) (lv fv:No),bf E w' S' hd x' f dm nn Sf lv fv/\ah S w w'/\aj w S S'
def mw (E:Kv) (S:List Nat) (hd:List Nat) (x:Tx) (w:AI) (e:Ending) (w':AI):Prop:=
 (∃(n:Nat) (x':Tx),e= .returned (.tuple #[.int .i64 n,.int .i64 0])/\Tx.ek E.limit E.upto.toNat x n x'/\jx E S (n::hd) x' w w')\/
 (e= .returned (.tuple #[.int .i64 0,.int .i64 9])/\x.sure E.limit E.upto.toNat=0/\jx E S hd x w w')
theorem Fe{E:Kv}{w:AI}{S hd:List Nat}{x:Tx}{f dm nn:Nat}{Sf:List Nat}{lv fv:No}(h:bf E w S hd x f dm nn Sf lv fv)(l:List Nat)(n:Nat)(hl:x.loose=l++[n]):
  aaf prog 113 #[.pointer (some ⟨E.t,0,none⟩)] w (mw E S hd x w):=by
 have H:=sh h;have bd:=h.loose;rw[hl]at bd;obtain⟨A,c,hv,hA,cI⟩:=aV bd;obtain⟨g,rfl⟩:=hA (by simp);have hlen:(l++[n]).length=l.length+1:=by simp
 rw[hlen]at hv bd;rw[hv]at bd;obtain⟨lg,lt'⟩:=abq bd g rfl;have hel:w.cell? ⟨g,l.length,none⟩=some (.int .i64 n):=by
  have:=afI bd (g:=g) rfl l.length (.int .i64 n) (by simp[ints]);rw[bJ,Nat.zero_add]at this;exact this
 have ni:l.length+1<=c:=by
  rcases bd.2 with⟨h1,h2⟩|⟨g',cap,cur,h1,hb,hh,hc,hm,hs,ht⟩
  ·cases h1
  ·injection h1 with e1 e2 e3;omega
 have c9:w.cell? ⟨E.t,9,none⟩=some (.slice (some ⟨g,0,none⟩) (l.length+1) c):=by rw[<-hv];exact h.cells.cell 9
 have f9:=h.cells.frozen 9;have lt:=h.cells.lt;have HL:=sh hl;have HV:=sh hv;have oF:=sh (NQ bd);obtain⟨m,hm⟩:∃m,m=l.length:=⟨_,rfl⟩;have HM:=sh hm;rw[<-hm]at hel c9 ni;have QU:m<=9223372036854775806:=by unfold abj at cI;omega
 have zO:c<=9223372036854775807:=by unfold abj at cI;omega
 have z1:decide ((0:Int)<(m:Int)+1)=true:=decide_eq_true (by omega);have z2:decide (0<m+1)=true:=decide_eq_true (by omega);have e1:IntKind.i64.wrap ((m:Int)+1-1)=(m:Int):=by rw[IntKind.wrap_i64];omega
 clear h hl hv bd hlen cI hm lg;go_enter func113,ntmps113
 go_wp2_with fail
 go_ret2
 have ho:ah [E.t] w (w.setCell ⟨E.t,9,none⟩ (.slice (some ⟨g,0,none⟩) m c)):=(ah.refl [E.t] w).setCell (.inl (by simp)) _;have dY:Tx.ek E.limit E.upto.toNat x n { x with loose:=l }:=Tx.ek.loose x l n HL.out;have bI:=H.out.nodup;have Xn:g≠E.t:=fun e=>by
  have h1:=(abJ.1 bI).1;rw[HV.out]at h1;exact h1 (by simp[aaT,e])
 have SO:∀b,fv.ownBlock=some b->b∉[E.t]:=fun b hb hs=>by
  rw[IN]at hs;subst hs;exact(abJ.1 bI).1 (by simp[hb])
 refine .inl ⟨n,_,rfl,dY,S,f,dm,nn,Sf,.slice (some ⟨g,0,none⟩) m c,fv,H.out.turn (x':={ x with loose:=l }) ?_ ho rfl rfl ?_ (ho.own H.out.aK SO) (by rw[HV.out];rfl) rfl (dY.ok H.out.ok),ho.mono (fun b hb=> .inl ?_),aj.refl _ _⟩
 ·have:=H.out.cells.put 9 (.slice (some ⟨g,0,none⟩) m c)
  exact this
 ·have h9:=ho.own oF.out (fun b hb hs=>by
   have e:g=b:=by simpa[aaT]using hb
   rw[IN]at hs;exact Xn (e.trans hs))
  rw[<-HM.out]at h9;show World.ownsRow _ 0 _ 1 _ l.length (ints l);rw[<-HM.out];exact h9
 ·rw[IN]at hb
  subst hb;rw[H.out.blocks];simp[aB]
theorem bf.take{E:Kv}{w w':AI}{S hd:List Nat}{x:Tx}{f dm nn:Nat}{Sf:List Nat}{lv fv:No}(h:bf E w S hd x f dm nn Sf lv fv){y:Nat×Nat}{r:List (Nat×Nat)}(bU:x.fr=y::r)(hf:FL w' f Sf r)(ho:ah Sf w w')(hl:x.loose=[])(hu:(y.1:Int)<=E.upto)(hE:E.Ok):
  Tx.ek E.limit E.upto.toNat x y.2 { x with fr:=r }/\jx E S (y.2::hd) { x with fr:=r } w w':=by
 have dY:Tx.ek E.limit E.upto.toNat x y.2 { x with fr:=r }:=Tx.ek.free x y.1 y.2 r hl bU (by have:=hE.upto;omega);have hm:∀b∈E.t::dm::(lv.ownBlock.toList++fv.ownBlock.toList),b∉Sf:=fun b hb hs=>by
  have hn:=h.nodup;have e:aB E.t f dm Sf lv fv=(E.t::dm::(lv.ownBlock.toList++fv.ownBlock.toList))++Sf:=by simp[aB]
  rw[e]at hn;exact(aag.1 hn).2.2 b hb b hs rfl
 have aX:∀b∈E.still,b∉Sf:=fun b hb hs=>h.apart b (by simp[aB,hs]) hb;have fw:=h.db;refine⟨dY,S,f,dm,nn,Sf,lv,fv,⟨ho.bk h.cells (hm _ (by simp)),hf,h.map.off ho (hm _ (by simp)),h.nn,ho.own h.loose (fun b hb=>hm b (by simp[hb])),ho.own h.aK (fun b hb=>hm b (by simp[hb])),ho.bk fw (aX _ (by simp[Kv.still])),ho.bk h.rd (aX _ (by simp[Kv.still])),
  h.pg.off ho (fun b hb=>aX b (by simp[Kv.still,hb])),h.dev.off ho (fun b hb=>aX b (by simp[Kv.still,hb])),h.row.off ho (aX _ (by simp[Kv.still])),dY.ok h.ok,h.blocks,h.nodup,h.apart⟩,ho.mono (fun b hb=> .inl (by rw[h.blocks];simp[aB,hb])),aj.refl _ _⟩
theorem Jz{E:Kv}(hE:E.Ok){w:AI}{S hd:List Nat}{x:Tx}{f dm nn:Nat}{Sf:List Nat}{lv fv:No}(h:bf E w S hd x f dm nn Sf lv fv)(hl:x.loose=[]):
  aaf prog 113 #[.pointer (some ⟨E.t,0,none⟩)] w (mw E S hd x w):=by
 have H:=sh h;have HL:=sh hl;have bd:=h.loose;rw[hl]at bd;obtain⟨A,c,hv,hA,cI⟩:=aV bd;have c9:w.cell? ⟨E.t,9,none⟩=some (.slice A 0 c):=by have:=h.cells.cell 9;rw[hv]at this;exact this
 have c1:w.cell? ⟨E.t,1,none⟩=some (.int .i64 E.txn):=h.cells.cell 1;have lt:=h.cells.lt;have fw:=h.db;have HK:=sh fun(W:AI) (ho:ah Sf w W)=>(show W.cell? ⟨E.t,7,none⟩=some (.pointer (some ⟨f,0,none⟩))/\W.cell? ⟨E.t,0,none⟩=some (.pointer (some ⟨E.b,0,none⟩))/\W.cell? ⟨E.b,1,none⟩=some (.pointer (some ⟨E.r,0,none⟩)) from by
  have ht:E.t∉Sf:=fun hs=>(abJ.1 h.nodup).1 (by simp[hs]);have hb:E.b∉Sf:=fun hs=>h.apart E.b (by simp[aB,hs]) (by simp[Kv.still]);exact⟨(ho.bk h.cells ht).cell 7,(ho.bk h.cells ht).cell 0,(ho.bk fw hb).cell 1⟩)
 have HO:=sh fun(W:AI) (hb:IT w.heap.size w W)=>E9 E.r ((E.txn:Int)-1) E.s W (ae h.rd hb);have hu:E.upto=min ((E.txn:Int)-2) (E.s.di ((E.txn:Int)-1)):=rfl;obtain⟨o,GH⟩:∃o,o=E.s.di ((E.txn:Int)-1):=⟨_,rfl⟩;rw[<-GH]at HO hu;have t2:=hE.txn;have t3:=hE.J1;have hu0:=hE.upto;have QW:min (IntKind.i64.wrap ((E.txn:Int)-1-1)) o=E.upto:=by rw[hu,IntWalk.i64_in _ (by omega)];omega
 obtain⟨u,hu9⟩:∃u,u=E.upto:=⟨_,rfl⟩;have HU:=sh hu9;rw[<-hu9]at QW hu0;clear hl bd hv hA cI fw hu GH hu9;have HFS:=sh (show f∈Sf from h.free.xN);by_cases hy:∃y r,x.fr=y::r/\(y.1:Int)<=u
 ·obtain⟨y,r,bU,hyu⟩:=hy
  have hp:y.2<512:=by have:=(h.ok.range.1 y.2 (by rw[bU];simp[Fr.pg])).2;have:=h.ok.le;have:=h.ok.lim;omega
  have bI:(Fr.pg (y::r)).Nodup:=by
   obtain⟨dk,k1,k2⟩:=h.ok.perm;have:=(aag.1 (h.ok.nodup k2)).1;rw[bU]at this;exact this
  have HT:=sh fun(W:AI) (hb:IT w.heap.size w W)=>II (S:=Sf) (by have:=h.free.below hb;rw[bU]at this;exact this) u hyu hp bI;have sG:=sh bU;have HYU:=sh hyu;obtain⟨n,hn⟩:∃n,n=y.2:=⟨_,rfl⟩;have HN:=sh hn;rw[<-hn]at HT;clear h bU hyu hp bI hn;go_enter func113,ntmps113
  go_wp2_with fail
  go_region_held3 (fun W=>W.cell? ⟨E.t,7,none⟩=some (.pointer (some ⟨f,0,none⟩))/\W.cell? ⟨E.t,0,none⟩=some (.pointer (some ⟨E.b,0,none⟩))/\W.cell? ⟨E.b,1,none⟩=some (.pointer (some ⟨E.r,0,none⟩))) (first|(refine HK.out _ ?_;with_reducible (first|exact(ah.refl _ _).drew|exact hJ.out|exact fX.out))|fail) (first
   | (go_at_call 170;(with_reducible refine(HO.out _ (BY _ _).drew).mono ?_);rintro e w1 ⟨rfl,ar⟩;have bh:=sh (show IT w.heap.size w w1 from (BY _ _).drew.trans ar);have hJ:=sh (ah.af bh.out Sf);clear ar)
   | (go_at_call 169;(with_reducible refine(HT.out _ bh.out).mono ?_);rintro e w2 ⟨rfl,Ml,jZ⟩;have sF:=sh Ml;have fX:=sh (hJ.out.then jZ (fun b hb=>by rw[IN]at hb;subst hb;exact .inl HFS.out));clear Ml jZ))
  all_goals
   have cZ:=fX.out.size;have ka:=sh (bf.take H.out sG.out sF.out fX.out HL.out (by rw[<-HU.out];exact HYU.out) hE);go_wp2_with fail
   go_ret2
   exact .inl ⟨n,_,rfl,by rw[HN.out];exact ka.out.1,by rw[HN.out];exact ka.out.2⟩
 ·have gd:∀y r,x.fr=y::r->u<y.1:=fun y r hh=>by
   by_cases hc:(y.1:Int)<=u
   ·exact absurd ⟨y,r,hh,hc⟩ hy
   ·omega
  have HT:=sh fun(W:AI) (hb:IT w.heap.size w W)=>L0 (S:=Sf) (h.free.below hb) u gd;have HNO:=sh gd;have hle:=h.ok.le;have kA:=h.ok.lim;obtain⟨pn,hpn⟩:∃pn,pn=x.aa:=⟨_,rfl⟩;obtain⟨lm,xI⟩:∃lm,lm=E.limit:=⟨_,rfl⟩;have HPN:=sh hpn;have Km:=sh xI;have HC:=sh fun(W:AI) (hb:IT w.heap.size w W)=>(show W.cell? ⟨E.t,5,none⟩=some (.int .i64 pn)/\W.cell? ⟨E.t,6,none⟩=some (.int .i64 lm)/\E.t<W.heap.size/\W.frozen? ⟨E.t,5,none⟩=false from by
   have:=ae h.cells hb;rw[hpn,xI];exact⟨this.cell 5,this.cell 6,this.lt,this.frozen 5⟩)
  rw[<-hpn,<-xI]at hle;rw[<-xI]at kA;have Dz:=sh HL.out;clear h gd hy hpn xI;by_cases aaw:pn<lm
  ·have z1:decide ((lm:Int)<=(pn:Int))=false:=decide_eq_false (by omega)
   have z2:decide (lm<=pn)=false:=decide_eq_false (by omega);go_enter func113,ntmps113
   go_wp2_with fail
   go_region_held3 (fun W=>W.cell? ⟨E.t,7,none⟩=some (.pointer (some ⟨f,0,none⟩))/\W.cell? ⟨E.t,0,none⟩=some (.pointer (some ⟨E.b,0,none⟩))/\W.cell? ⟨E.b,1,none⟩=some (.pointer (some ⟨E.r,0,none⟩))) (first|(refine HK.out _ ?_;with_reducible (first|exact(ah.refl _ _).drew|exact hJ.out))|fail) (first
    | (go_at_call 170;(with_reducible refine(HO.out _ (BY _ _).drew).mono ?_);rintro e w1 ⟨rfl,ar⟩;have bh:=sh (show IT w.heap.size w w1 from (BY _ _).drew.trans ar);have hJ:=sh (ah.af bh.out Sf);clear ar)
    | (go_at_call 169;(with_reducible refine(HT.out _ bh.out).mono ?_);rintro e w2 ⟨rfl,rfl⟩))
   all_goals
    obtain⟨q5,q6,q7,q8⟩:=HC.out _ bh.out;go_wp2_with fail
    go_quiet (fail)
    go_wp2_with fail
    go_ret2
    have h1:=H.out.off ((ah.af bh.out []).drewN nq) (by simp);have dY:Tx.ek E.limit E.upto.toNat x x.aa { x with aa:=x.aa+1 }:=Tx.ek.more x Dz.out (fun y r hh=>by have:=HNO.out y r hh;have:=HU.out;omega) (by rw[<-HPN.out,<-Km.out];exact aaw);have ho:ah [E.t] (w1.drewN nq) ((w1.drewN nq).setCell ⟨E.t,5,none⟩ (.int .i64 (pn+1))):=(ah.refl [E.t] _).setCell (.inl (by simp)) _;have hnt:E.t∉(lv.ownBlock.toList++fv.ownBlock.toList):=fun hs=>(abJ.1 H.out.nodup).1 (by
     rcases By.1 hs with hs|hs<;>simp only[OF,By,hs,true_or,or_true])
    refine .inl ⟨x.aa,_,congrArg (fun z:Nat=>Ending.returned (.tuple #[.int .i64 (z:Int),.int .i64 0])) HPN.out,dY,S,f,dm,nn,Sf,lv,fv,h1.turn (x':={ x with aa:=x.aa+1 }) ?_ ho rfl rfl (ho.own h1.loose (fun b hb hs=> ?_)) (ho.own h1.aK (fun b hb hs=> ?_)) rfl rfl (dY.ok H.out.ok),?_,aj.refl _ _⟩
    ·have:=h1.cells.put 5 (.int .i64 (pn+1))
     rw[HPN.out]at this |-;exact this
    ·rw[IN]at hs;subst hs;exact hnt (by simp[hb])
    ·rw[IN]at hs;subst hs;exact hnt (by simp[hb])
    ·exact((ah.af bh.out S).drewN nq).then ho (fun b hb=> .inl (by rw[IN]at hb;subst hb;rw[H.out.blocks];simp[aB]))
  ·have z1:decide ((lm:Int)<=(pn:Int))=true:=decide_eq_true (by omega)
   have z2:decide (lm<=pn)=true:=decide_eq_true (by omega);go_enter func113,ntmps113
   go_wp2_with fail
   go_region_held3 (fun W=>W.cell? ⟨E.t,7,none⟩=some (.pointer (some ⟨f,0,none⟩))/\W.cell? ⟨E.t,0,none⟩=some (.pointer (some ⟨E.b,0,none⟩))/\W.cell? ⟨E.b,1,none⟩=some (.pointer (some ⟨E.r,0,none⟩))) (first|(refine HK.out _ ?_;with_reducible (first|exact(ah.refl _ _).drew|exact hJ.out))|fail) (first
    | (go_at_call 170;(with_reducible refine(HO.out _ (BY _ _).drew).mono ?_);rintro e w1 ⟨rfl,ar⟩;have bh:=sh (show IT w.heap.size w w1 from (BY _ _).drew.trans ar);have hJ:=sh (ah.af bh.out Sf);clear ar)
    | (go_at_call 169;(with_reducible refine(HT.out _ bh.out).mono ?_);rintro e w2 ⟨rfl,rfl⟩))
   all_goals
    obtain⟨q5,q6,q7,q8⟩:=HC.out _ bh.out;go_wp2_with fail
    go_quiet (fail)
    go_wp2_with fail
    go_ret2
    exact .inr ⟨rfl,Tx.FF Dz.out (fun y r hh=>by have:=HNO.out y r hh;have:=HU.out;omega) (by rw[<-HPN.out,<-Km.out];omega),S,f,dm,nn,Sf,lv,fv,H.out.off ((ah.af bh.out []).drewN nq) (by simp),(ah.af bh.out S).drewN nq,aj.refl _ _⟩
theorem Cm{E:Kv}(hE:E.Ok){w:AI}{S hd:List Nat}{x:Tx}{f dm nn:Nat}{Sf:List Nat}{lv fv:No}(h:bf E w S hd x f dm nn Sf lv fv):
  aaf prog 113 #[.pointer (some ⟨E.t,0,none⟩)] w (mw E S hd x w):=by
 rcases List.eq_nil_or_concat x.loose with hl|⟨l,n,hl⟩
 ·exact Jz hE h hl
 ·exact Fe h l n (by rw[hl,List.concat_eq_append])
end Go.Proofs.YtjbcbnemdhbhbaaGreatDoor
namespace Go.Proofs.YtjbcbnemdhbhbaaGreatDoor
open Go.Proofs.Tryz
open Go.RowKit Go.Maps Go.Sort Go.Shelf
theorem WI(m:Nat):AnyZI.SortsIn prog Tryz.sortedA_ren agp m:=
 ⟨fun jH off cap ss W hH nh cZ=>agd.2 (AnyM.slices_Sort_int Tryz.sortA jH off cap ss W hH nh cZ),
  fun p cap W=>agd.2 (AnyM.slices_Sort_int_none Tryz.sortA p cap W)⟩
theorem Ws{l l':List Int}(h:l.Perm l')(hs:l'.Pairwise (· < ·)):l.mergeSort (fun x y=>decide (x<=y))=l':=by
 have h1:(l.mergeSort (fun x y=>decide (x<=y))).Perm l':=(List.mergeSort_perm _ _).trans h;have h2:(l.mergeSort (fun x y=>decide (x<=y))).Pairwise (fun x y=>x<=y):=by
  have:=List.pairwise_mergeSort (le:=fun(x y:Int)=>decide (x<=y)) (by intro a b c;simp;omega) (by intro a b;simp;omega) l;exact this.imp (by intro a b;simp)
 exact h1.eq_of_pairwise (by intro a b _ _ h3 h4;omega) h2 (hs.imp (by intro a b h;omega))
def DD (keys:List Int) (B:Nat) (w:AI) (e:Ending) (w':AI):Prop:=
 ∃v,e= .returned v/\w'.ownsRow B 3 1 v keys.length (keys.map (Value.int .i64))/\IT B w w'
theorem IMap.tight{P:Program}{k:TypeId}{w:AI}{m nn:Nat}{V:Int->Option No}(h:IMap P k w m nn V)(hk:P.underlying k=some (.int .i64))(keys:List Int)(hs:keys.Pairwise (· < ·))(hm:∀x,x∈keys↔(V x).isSome=true):IMap P k w m keys.length V:=by
 obtain⟨D,aq,ha⟩:=h;obtain⟨Y4,hD0,hp,iV⟩:=aq.entries (int_keyed hk);obtain⟨es,clock,hb,F,cZ,hD⟩:=id aq;have fg:keys.Perm (intKeys (.map Y4)):=by
  refine perm_intKeys hp ?_ (hs.imp (by intro a b h;omega)) (fun x=> ?_)
  ·intro p lV
   have h1:afE (.map Y4) p.1=true:=List.any_eq_true.2 ⟨p,lV,WideAt.sameKey_self (iV p lV)⟩;rw[<-hD0]at h1;obtain⟨i,v,_,he⟩:=ha.2 _ h1;exact⟨i,he⟩
  ·rw[hm x,<-eO ha,hD0]
 have h1:=fg.length_eq;have h2:(intKeys (.map Y4)).length=Y4.length:=by simp[intKeys]
 have h3:Y4.length=es.size:=by
  have h4:=hD0.symm.trans hD;injection h4 with h4;rw[h4,length_sorted,IS,Array.length_toList]
 exact⟨D,⟨es,clock,hb,F,by omega,hD⟩,ha⟩
theorem bf.mapped{E:Kv}{w w':AI}{S hd hd':List Nat}{x:Tx}{f dm nn uR:Nat}{Sf:List Nat}{lv fv:No}{d:ag}(h:bf E w S hd x f dm nn Sf lv fv)(hm:IMap prog 3 w' dm uR (dK E.txn d))(hn:uR<=600)(ho:ah [dm] w w')(fA:({ x with az:=d }:Tx).Ok E.limit E.cq E.U E.pc hd'):bf E w' S hd' { x with az:=d } f dm uR Sf lv fv:=by
 have bI:=h.nodup;unfold aB at bI;have aX:∀b∈E.still,b∉[dm]:=fun b hb hs=>by
  rw[IN]at hs;subst hs;exact h.apart _ (by simp[aB]) hb
 have h1:=abJ.1 bI;have h2:=abJ.1 h1.2;have wg:∀b∈E.t::(lv.ownBlock.toList++(fv.ownBlock.toList++Sf)),b∉[dm]:=fun b hb hs=>by
  rw[IN]at hs;subst hs;rcases OF.1 hb with rfl|hb
  ·exact h1.1 (by simp)
  ·exact h2.1 hb
 have fw:=h.db;exact⟨ho.bk h.cells (wg _ (by simp)),h.free.off ho (fun b hb=>wg b (by simp[hb])),hm,hn,ho.own h.loose (fun b hb=>wg b (by simp[hb])),ho.own h.aK (fun b hb=>wg b (by simp[hb])),ho.bk fw (aX _ (by simp[Kv.still])),ho.bk h.rd (aX _ (by simp[Kv.still])),
  h.pg.off ho (fun b hb=>aX b (by simp[Kv.still,hb])),h.dev.off ho (fun b hb=>aX b (by simp[Kv.still,hb])),h.row.off ho (aX _ (by simp[Kv.still])),fA,h.blocks,h.nodup,h.apart⟩
theorem IMap.r9{w:AI}{m nn txn:Nat}{d:ag}(h:IMap prog 3 w m nn (dK txn d))(hd:∀n,d n≠none->n<512):∃uR,uR<=600/\IMap prog 3 w m uR (dK txn d):=by
 refine⟨_,?_,h.tight underlying3 (((afG 512).filter fun i=>(d i).isSome).map fun i:Nat=>(i:Int)) ?_ fun x=> ?_⟩
 ·rw[IS]
  have:=List.length_filter_le (fun i=>(d i).isSome) (afG 512);rw[adT]at this;omega
 ·rw[adB]
  exact(List.pairwise_lt_range.filter _).imp (by intro a b h;omega)
 ·rw[abK]
  constructor
  ·rintro⟨i,hi,rfl⟩
   rw[jQ];have:=(agt.1 hi).2;cases hdi:d i with
   | none=>rw[hdi]at this;cases this
   | some p=>rfl
  ·intro hx
   unfold dK at hx;by_cases h0:0<=x
   ·rw[if_pos h0]at hx
    cases hdi:d x.toNat with
    | none=>rw[hdi]at hx;cases hx
    | some p=>exact⟨x.toNat,agt.2 ⟨List.mem_range.2 (hd _ (by rw[hdi];simp)),by rw[hdi];rfl⟩,by omega⟩
   ·rw[if_neg h0]at hx;cases hx
theorem Ke{E:Kv}(hE:E.Ok){w:AI}{S:List Nat}{x:Tx}{f dm nn:Nat}{Sf:List Nat}{lv fv:No}(h:bf E w S [] x f dm nn Sf lv fv)(p:rW)(hk:p.kind<=4):
  aaf prog 319 #[.agg #[.pointer (some ⟨E.t,0,none⟩)],.int .i64 p.kind,.string p.body] w (fun e w'=>
   (∃(n:Nat) (x':Tx),e= .returned (.tuple #[.int .i64 n,.int .i64 0])/\Tx.ek E.limit E.upto.toNat x n x'/\x'.Ok E.limit E.cq E.U E.pc [n]/\jx E S [] { x' with az:=Tr.cY x'.az n (some p) } w w')\/
   (e= .returned (.tuple #[.int .i64 0,.int .i64 9])/\x.sure E.limit E.upto.toNat=0/\jx E S [] x w w')):=by
 have HP:=sh (Cm hE (h.off ((ah.refl [] w).alloc (.cells #[.pointer (some ⟨E.t,0,none⟩)] 111)) (by simp)));have gj:=sh h.old;have lt:=h.cells.lt;have HE:=sh hE;clear h hE;go_enter func319,ntmps319
 go_wp2_with fail
 (with_reducible refine HP.out.mono ?_)
 rintro e w1 (⟨n,x',rfl,dY,S1,f1,UM,nn1,Sf1,lv1,fv1,mM,rk,Pc⟩|⟨rfl,rB,S1,f1,UM,nn1,Sf1,lv1,fv1,mM,rk,Pc⟩)
 ·have hr:=mM.ok.range.2.2.2.2.2 n (by simp)
  have hle:=mM.ok.le;have kA:=mM.ok.lim;obtain⟨w2,bZ,aab,ra⟩:=(mM.map.off ((ah.refl [] w1).drew) (by simp)).update underlying3 underlying100 (by have:=mM.nn;unfold abj;omega) (i:=(n:Int)) (C0 (by omega) (by omega)) (.agg #[.int .i64 p.kind,.int .i64 n,.int .i64 E.txn,.string p.body]);have q1:w1.cell? ⟨E.t,1,none⟩=some (.int .i64 E.txn):=mM.cells.cell 1;have q8:w1.cell? ⟨E.t,8,none⟩=some (.map (some UM)):=mM.cells.cell 8;have lt1:=mM.cells.lt;have HM:=sh mM;have HX:=sh (show Tx.ek E.limit E.upto.toNat x n x'/\ah S (w.alloc (.cells #[.pointer (some ⟨E.t,0,none⟩)] 111)) w1/\aj (w.alloc (.cells #[.pointer (some ⟨E.t,0,none⟩)] 111)) S S1 from ⟨dY,rk,Pc⟩);have jZ:ah [UM] w1 w2:=(ah.refl [UM] w1).drew.grown ra (fun g hg=> .inl (by simp at hg;simp[hg]));have SQ:IMap prog 3 w2 UM (nn1+1) (dK E.txn (Tr.cY x'.az n (some p))):=by
   rw[<-nT];exact aab
  have fA:=mM.ok.lay p;obtain⟨nn2,jY,aac⟩:=SQ.r9 (fun m hm=>by have:=fA.range.2.1 m hm;have:=fA.le;have:=fA.lim;omega);have ka:=sh (show jx E S [] { x' with az:=Tr.cY x'.az n (some p) } w w2 from ⟨S1,f1,UM,nn2,Sf1,lv1,fv1,mM.mapped aac jY jZ fA,(((ah.refl S w).alloc _).trans rk).then jZ (fun b hb=>by
     rw[IN]at hb;subst hb;have h9:b∈S1:=by rw[mM.blocks];simp[aB]
     rcases Pc b h9 with h8|h8
     ·exact .inl h8
     ·exact .inr (by simp at h8;omega)),Pc.mono (by simp)⟩)
  clear mM dY rk Pc aab ra jZ SQ fA aac;go_wp2_with fail
  go_region_with (fail)
  all_goals
   go_wp2_with fail
   go_ret2
   exact .inl ⟨n,x',rfl,HX.out.1,HM.out.ok,ka.out⟩
 ·have HX:=sh (show jx E S [] x w w1 from ⟨S1,f1,UM,nn1,Sf1,lv1,fv1,mM,((ah.refl S w).alloc _).trans rk,Pc.mono (by simp)⟩)
  have HS:=sh rB;clear mM rk Pc rB;go_wp2_with fail
  go_ret2
  exact .inr ⟨rfl,HS.out,HX.out⟩
end Go.Proofs.YtjbcbnemdhbhbaaGreatDoor
namespace Go.Proofs.YtjbcbnemdhbhbaaGreatDoor
open Go.Proofs.Tryz
open Go.RowKit
namespace Tx
theorem Ok.aeq{x:Tx}{limit n:Nat}{D:ag}{U pc h:List Nat}(k:x.Ok limit D U pc h)(hd:x.az n≠none):({ x with az:=Tr.cY x.az n none }:Tx).Ok limit D U pc (n::h):=by
 obtain⟨dk,h1,h2⟩:=k.perm;have hm:=(h1 n).2 hd;obtain⟨a,b,rfl⟩:=List.append_of_mem hm;have hn:=k.nodup h2;have oU:n∉a++b:=by
  have h3:=(aag.1 (aag.1 hn).2.1).1;have:=(acG (a:=n) (l₁ :=a) (l₂ :=b)).nodup_iff.1 h3;exact(abJ.1 this).1
 refine⟨⟨a++b,fun m=> ?_,?_⟩,k.one,k.le,k.lim,k.sorted,k.aK,k.sub,k.cq,k.eQ⟩
 ·show m∈a++b↔Tr.cY x.az n none m≠none
  by_cases e:m=n
  ·subst e;rw[Tr.fQ];simp[oU]
  ·rw[Tr.dM _ _ e,<-h1 m];simp[e]
 ·refine adn ?_ h2
  have p1:=acG (a:=n) (l₁ :=Fr.pg x.fr++((a++b)++(x.loose++(U++pc)))) (l₂ :=h);have p2:=acG (a:=n) (l₁ :=Fr.pg x.fr++a) (l₂ :=b++(x.loose++(U++(pc++h))));refine adn (by simpa[aaa]using p1) ?_;simpa[aaa]using p2.symm
theorem Ok.keep{x:Tx}{limit n:Nat}{D:ag}{U pc h:List Nat}(k:x.Ok limit D U pc (n::h)):({ x with loose:=x.loose++[n] }:Tx).Ok limit D U pc h:=by
 obtain⟨dk,h1,h2⟩:=k.perm;refine⟨⟨dk,h1,?_⟩,k.one,k.le,k.lim,k.sorted,k.aK,k.sub,k.cq,k.eQ⟩;refine adn ?_ h2;have p1:=acG (a:=n) (l₁ :=Fr.pg x.fr++(dk++x.loose)) (l₂ :=U++(pc++h));have p2:=acG (a:=n) (l₁ :=Fr.pg x.fr++(dk++(x.loose++(U++pc)))) (l₂ :=h);refine adn (by simpa[aaa]using p1) ?_;simpa[aaa]using p2.symm
end Tx
theorem bf.grow{E:Kv}{w w':AI}{S hd hd':List Nat}{x x':Tx}{f dm nn:Nat}{Sf:List Nat}{lv fv lv' fv':No}(h:bf E w S hd x f dm nn Sf lv fv)(hc:Bk w' E.t 103 (aO E x' f dm lv' fv')){U:List Nat}(ho:ah U w w')(hU:∀b∈U,b=E.t\/lv.ownBlock=some b\/fv.ownBlock=some b)(bU:x'.fr=x.fr)(hdy:x'.az=x.az)
  (hl:w'.ownsRow 0 3 1 lv' x'.loose.length (ints x'.loose)) (hf:w'.ownsRow 0 3 1 fv' x'.aK.length (ints x'.aK)) (e1:∀g,lv'.ownBlock=some g->lv.ownBlock=some g\/w.heap.size<=g) (e2:∀g,fv'.ownBlock=some g->fv.ownBlock=some g\/w.heap.size<=g)
  (e3:lv'.ownBlock=lv.ownBlock\/fv'.ownBlock=fv.ownBlock) (fA:x'.Ok E.limit E.cq E.U E.pc hd'):jx E S hd' x' w w':=by
 have bI:=h.nodup;have hold:=h.old;have dw:∀b∈aB E.t f dm Sf lv fv,b∈S:=fun b hb=>by rw[h.blocks];exact By.2 (.inl hb)
 have hUm:∀b∈U,b∈aB E.t f dm Sf lv fv:=fun b hb=>by
  rcases hU b hb with rfl|e|e
  ·simp[aB]
  ·simp[aB,e]
  ·simp[aB,e]
 have aX:∀b∈E.still,b∉U:=fun b hb hs=>h.apart b (hUm b hs) hb;unfold aB at bI;have n1:=abJ.1 bI;have n2:=abJ.1 n1.2;have n3:=aag.1 n2.2;have n4:=aag.1 n3.2.1;have hdm:dm∉U:=fun hs=>by
  rcases hU dm hs with e|e|e
  ·exact n1.1 (by rw[<-e];simp)
  ·exact n2.1 (by simp[e])
  ·exact n2.1 (by simp[e])
 have hSf:∀b∈Sf,b∉U:=fun b hb hs=>by
  rcases hU b hs with rfl|e|e
  ·exact n1.1 (by simp[hb])
  ·exact n3.2.2 b (by simp[e]) b (by simp[hb]) rfl
  ·exact n4.2.2 b (by simp[e]) b hb rfl
 have hfb:∀b∈lv'.ownBlock.toList++fv'.ownBlock.toList,b∈lv.ownBlock.toList++fv.ownBlock.toList\/w.heap.size<=b:=fun b hb=>by
  rcases By.1 hb with hb|hb
  ·rw[abG]at hb
   exact(e1 b hb).imp (fun hh=>by simp[hh]) id
  ·rw[abG]at hb
   exact(e2 b hb).imp (fun hh=>by simp[hh]) id
 have VR:∀b,(b=E.t\/b=dm\/b∈Sf)->b<w.heap.size/\b∉lv.ownBlock.toList++fv.ownBlock.toList:=fun b hb=>by
  rcases hb with rfl|rfl|hb
  ·exact⟨h.cells.lt,fun hs=>n1.1 (by rcases By.1 hs with hs|hs<;>simp only[OF,By,hs,true_or,or_true])⟩
  ·exact⟨h.map.lt,fun hs=>n2.1 (by rcases By.1 hs with hs|hs<;>simp only[By,hs,true_or,or_true])⟩
  ·refine⟨h.free.old b hb,fun hs=> ?_⟩
   rcases By.1 hs with hs|hs
   ·exact n3.2.2 b hs b (by simp[hb]) rfl
   ·exact n4.2.2 b hs b hb rfl
 have qu:∀b,(b=E.t\/b=dm\/b∈Sf)->b∉lv'.ownBlock.toList++fv'.ownBlock.toList:=fun b hb hs=>by
  obtain⟨h1,h2⟩:=VR b hb;rcases hfb b hs with h3|h3
  ·exact h2 h3
  ·omega
 have Vi:∀b∈lv'.ownBlock.toList,b∉fv'.ownBlock.toList:=fun b hb hs=>by
  rw[abG]at hb hs;rcases e3 with e|e
  ·rw[e]at hb
   rcases e2 b hs with h3|h3
   ·exact n3.2.2 b (by simp[hb]) b (by simp[h3]) rfl
   ·have:=(abq h.loose b hb).2;omega
  ·rw[e]at hs
   rcases e1 b hb with h3|h3
   ·exact n3.2.2 b (by simp[h3]) b (by simp[hs]) rfl
   ·have:=(abq h.aK b hs).2;omega
 have oX:(aB E.t f dm Sf lv' fv').Nodup:=by
  unfold aB;refine abJ.2 ⟨fun hs=> ?_,abJ.2 ⟨fun hs=> ?_,aag.2 ⟨?_,aag.2 ⟨?_,n4.2.1,?_⟩,?_⟩⟩⟩
  ·rcases OF.1 hs with e|hs
   ·exact n1.1 (by rw[e];simp)
   ·rw[<-aaa]at hs
    rcases By.1 hs with hs|hs
    ·exact qu _ (.inl rfl) hs
    ·exact n1.1 (by simp[hs])
  ·rw[<-aaa]at hs
   rcases By.1 hs with hs|hs
   ·exact qu _ (.inr (.inl rfl)) hs
   ·exact n2.1 (by simp[hs])
  ·cases lv'.ownBlock<;>simp
  ·cases fv'.ownBlock<;>simp
  ·rintro a ha b hb rfl
   exact qu a (.inr (.inr hb)) (by simp only[By,ha,or_true])
  ·rintro a ha b hb rfl
   rcases By.1 hb with hb|hb
   ·exact Vi a ha hb
   ·exact qu a (.inr (.inr hb)) (by simp only[By,ha,true_or])
 have jU:∀b∈aB E.t f dm Sf lv' fv',b∈aB E.t f dm Sf lv fv\/w.heap.size<=b:=fun b hb=>by
  unfold aB at hb |-;rcases OF.1 hb with rfl|hb
  ·exact .inl (by simp)
  ·rcases OF.1 hb with rfl|hb
   ·exact .inl (by simp)
   ·rw[<-aaa]at hb
    rcases By.1 hb with hb|hb
    ·refine(hfb b hb).imp (fun hh=> ?_) id
     rcases By.1 hh with hh|hh<;>simp only[OF,By,hh,true_or,or_true]
    ·exact .inl (by simp[hb])
 have jC:∀b∈E.still,b<w.heap.size:=fun b hb=>hold b (by rw[h.blocks];exact By.2 (.inr hb));have fw:=h.db;refine⟨aB E.t f dm Sf lv' fv'++E.still,f,dm,nn,Sf,lv',fv',⟨hc,by rw[bU];exact h.free.off ho hSf,by rw[hdy];exact h.map.off ho hdm,h.nn,hl,hf,ho.bk fw (aX _ (by simp[Kv.still])),ho.bk h.rd (aX _ (by simp[Kv.still])),
  h.pg.off ho (fun b hb=>aX b (by simp[Kv.still,hb])),h.dev.off ho (fun b hb=>aX b (by simp[Kv.still,hb])),h.row.off ho (aX _ (by simp[Kv.still])),fA,rfl,oX,fun b hb hs=> ?_⟩,ho.mono (fun b hb=> .inl (dw b (hUm b hb))),fun b hb=> ?_⟩
 ·rcases jU b hb with h1|h1
  ·exact h.apart b h1 hs
  ·have:=jC b hs;omega
 ·rcases By.1 hb with hb|hb
  ·exact(jU b hb).imp (dw b) id
  ·exact .inl (by rw[h.blocks];exact By.2 (.inr hb))
theorem ints_at{w:AI}{A:Option Addr}{l:List Nat}(h:Sl w A (ints l))(j:Nat)(hj:j<l.length):∃b o,A=some ⟨b,o,none⟩/\b<w.heap.size/\w.cell? ⟨b,o+j,none⟩=some (.int .i64 (l[j]:Nat)):=
 h j (.int .i64 (l[j]:Nat)) (by simp[ints,hj])
theorem Nb{w:AI}{A:Option Addr}{c:Nat}{l:List Nat}(h:Sl w A (ints l))(hl:l.length<=100000)(n:Nat)(hn:n∉l):aaf prog 213 #[.slice A l.length c,.int .i64 n] w (fun e w'=>e= .returned (.int .i64 (-1))/\w=w'):=by
 have H:=sh h;have HN:=sh hn;obtain⟨m,hm⟩:∃m,m=l.length:=⟨_,rfl⟩;have HM:=sh hm;rw[<-hm]at hl |-;clear h hn hm;go_enter func213,ntmps213
 go_wp2_with fail
 go_loop [8] (fun i=>∃k:Nat,i= .int .i64 k/\k<=m) (fun i=>m-(intOf i).toNat)
 case atStart=>exact⟨0,rfl,Nat.zero_le _⟩
 case round=>
  obtain⟨k,rfl,hk⟩:=hrel;by_cases aH:k<m
  ·have z1:decide ((k:Int)<(m:Int))=true:=decide_eq_true (by omega)
   have z2:decide (k<m)=true:=decide_eq_true aH;obtain⟨b,o,rfl,lb,q⟩:=ints_at H.out k (by rw[<-HM.out];exact aH);obtain⟨y,hy⟩:∃y,y=l[k]'(by rw[<-HM.out];exact aH):=⟨_,rfl⟩;have bM:((n:Int)==(y:Int))=false:=by
    rw[beq_eq_false_iff_ne];intro e;have e2:n=y:=by omega
    exact HN.out (by rw[e2,hy];exact List.getElem_mem _)
   have VG:(n==y)=false:=by rw[beq_eq_false_iff_ne];rw[beq_eq_false_iff_ne]at bM;omega
   rw[<-hy]at q;clear hy;go_wp2_with fail
   go_round
   case rel=>exact⟨k+1,by go_num,by omega⟩
   case measure=>simp[intOf];omega
  ·have z1:decide ((k:Int)<(m:Int))=false:=decide_eq_false (by omega)
   have z2:decide (k<m)=false:=decide_eq_false aH;go_wp2_with fail
   go_ret
   exact⟨rfl,rfl⟩
theorem qS{w:AI}{A:Option Addr}{c:Nat}{l:List Nat}(h:Sl w A (ints l))(hl:l.length<=100000)(n:Nat)(hn:n∉l):aaf prog 157 #[.slice A l.length c,.int .i64 n] w (fun e w'=>e= .returned (.bool false)/\w=w'):=by
 have HI:=sh (Nb (c:=c) h hl n hn);clear h hl hn;go_enter func157,ntmps157
 go_wp2_with fail
 (with_reducible refine HI.out.mono ?_)
 rintro e w' ⟨rfl,rfl⟩;go_wp2_with fail
 go_ret
 exact⟨rfl,rfl⟩
theorem Ka{E:Kv}{w:AI}{S:List Nat}{x:Tx}{f dm nn:Nat}{Sf:List Nat}{lv fv:No}(h:bf E w S [] x f dm nn Sf lv fv)(n:Nat)(hd:x.az n≠none):
  aaf prog 317 #[.agg #[.pointer (some ⟨E.t,0,none⟩)],.int .i64 n] w (fun e w'=>e= .returned (.int .i64 0)/\jx E S [] { x with az:=Tr.cY x.az n none,loose:=x.loose++[n] } w w'):=by
 obtain⟨p,hp⟩:=Option.ne_none_iff_exists'.1 hd;have hr:=h.ok.range.2.1 n hd;have hle:=h.ok.le;have kA:=h.ok.lim;have hn:n<512:=by omega
 have c8:w.cell? ⟨E.t,8,none⟩=some (.map (some dm)):=h.cells.cell 8;have lt:=h.cells.lt;have lt1:E.t<w.heap.size+1:=by omega
 have hl:∀W,ah [] w W->(acR 100 (.map (some dm)) (.int .i64 n) true).run prog W= .ok (.tuple #[TP E.txn n p,.bool true]) W:=fun W hW=>by
  have:=px h n hn W hW;rw[hp]at this;exact this
 have HL:=sh (hl (w.alloc (.cells #[.pointer (some ⟨E.t,0,none⟩)] 111)) ((ah.refl [] w).alloc _));unfold TP at HL;have hl2:=HL.out;obtain⟨wa,TF⟩:∃wa,wa=(w.alloc (.cells #[.pointer (some ⟨E.t,0,none⟩)] 111)).alloc (.cells #[.int .i64 p.kind,.int .i64 n,.int .i64 E.txn,.string p.body] 126):=⟨_,rfl⟩;have gJ:IT w.heap.size w wa:=by rw[TF];exact((BY _ w).alloc (Nat.le_refl _) _).alloc (by simp) _
 have VB:=h.off (ah.af gJ []) (by simp);obtain⟨w2,aeW,SQ,jZ⟩:=VB.map.drop (ty:=0) underlying3 underlying100 (i:=(n:Int)) (C0 (by omega) (by omega));have SQ:IMap prog 3 w2 dm nn (dK E.txn (Tr.cY x.az n none)):=by
  rw[<-nT];exact SQ
 have jf:=VB.mapped SQ VB.nn jZ (VB.ok.aeq hd);obtain⟨A,c,hv,hA,cI⟩:=aV jf.loose;have q9:w2.cell? ⟨E.t,9,none⟩=some lv:=jf.cells.cell 9;have f9:=jf.cells.frozen 9;have Ri:=jf.cells.lt;have hlen:x.loose.length<=512:=by
  have:=VB.ok;obtain⟨dk,k1,k2⟩:=this.perm;have h1:=k2.length_eq;simp only[AT,gV,IS,adT]at h1;omega
 obtain⟨i0,hi,ez,dP,eh⟩:=info_parts dz;rw[TF]at aeW;have fX:=sh (show ah S w w2 from (ah.af gJ S).then jZ (fun b hb=>by rw[IN]at hb;subst hb;exact .inl (by rw[VB.blocks];simp[aB])));have sI:=sh jf;have ft:=sh jf.loose;have rV:=sh hv;have O4:=sh (show w.heap.size<=w2.heap.size from Nat.le_trans gJ.size jZ.size);obtain⟨m,so⟩:∃m,m=x.loose.length:=⟨_,rfl⟩;have xa:=sh so;have BO:lv= .slice A m c:=by rw[so];exact hv
 rw[<-so]at hlen ft;rw[BO]at q9 ft;have aU:=ft.out;have vF:=sh BO;have W6:=sh (show aaT (.slice A m c)≠some E.t from cz aU jf.cells (by decide));clear h hp hl TF gJ VB SQ jZ jf hv hA cI hr hle kA hd BO so;go_enter func317,ntmps317
 go_wp2_with (first
  | (at_builtin;refine aea _ rfl (.tmp 29) (.tmp 31) 51 rfl 0 3 i0 (.int .i64 0) 1 8 underlying51 hi ez dP eh rfl (by omega) (.slice A m c) m (ints x.loose) rfl (aU.alloc _) ⟨w2.heap.size,0,none⟩ 1 1 [.int .i64 n] rfl rfl (acH (cs:= #[.int .i64 n]) (heap_alloc_new w2 _)) (cK [n]) (by omega) (by unfold abj;omega) (by omega) (by simp) (w2.heap.size+1) (by simp) ?_;intro gg gH w3 ax aQ df uo;have lQ:=(aQ.block E.t (by simp;omega) (fun e=>W6.out e.symm)).trans (sI.out.cells.alloc (.cells #[.int .i64 n] 3));have y0:w3.cell? ⟨E.t,9,none⟩=some lv:=Bk.cell lQ 9;have y1:=Bk.frozen lQ 9;have y2:=Bk.lt lQ)
  | fail)
 all_goals
  go_ret
  have jg:ah (E.t::(aaT (.slice A m c)).toList) w2 (w3.setCell ⟨E.t,9,none⟩ (.slice (some ⟨gg,0,none⟩) (m+1) gH)):=
   (((ah.refl _ w2).alloc (.cells #[.int .i64 n] 3)).grown aQ (fun g hg=> .inl (by rw[hg];simp))).setCell (.inl (by simp)) _
  have hgt:gg≠E.t:=fun e=>by
   have:=cz ax lQ (by decide);rw[e]at this;exact this rfl
  have kB:ah [E.t] w3 (w3.setCell ⟨E.t,9,none⟩ (.slice (some ⟨gg,0,none⟩) (m+1) gH)):=(ah.refl _ _).setCell (.inl (by simp)) _;have aX:=bf.grow (x':={ x with az:=Tr.cY x.az n none,loose:=x.loose++[n] }) (lv':= .slice (some ⟨gg,0,none⟩) (m+1) gH) (fv':=fv) sI.out (hd':=[]) ?_ jg (fun b hb=> ?_) rfl rfl ?_ ?_ (fun g hg=> ?_) (fun g hg=> .inl hg) (.inr rfl) (sI.out.ok.keep)
  ·obtain⟨S3,f3,Gg,KG,xc,GU,Gm,k1,k2,k3⟩:=aX
   refine⟨rfl,S3,f3,Gg,KG,xc,GU,Gm,k1,fX.out.trans k2,k3.mono O4.out⟩
  ·exact Bk.put lQ 9 (.slice (some ⟨gg,0,none⟩) (m+1) gH)
  ·rcases OF.1 hb with rfl|hb
   ·exact .inl rfl
   ·rw[abG]at hb
    exact .inr (.inl (by rw[vF.out];exact hb))
  ·have h9:=kB.own ax (fun b hb hs=>by
    rw[IN]at hs;subst hs;exact hgt (by simpa[aaT]using hb))
   show World.ownsRow _ 0 _ 1 _ (x.loose++[n]).length (ints (x.loose++[n]));rw[AT,fK,<-xa.out];exact h9
  ·have h8:=sI.out.aK
   exact jg.own h8 (fun b hb hs=>by
    have bI:=sI.out.nodup;unfold aB at bI;have n1:=abJ.1 bI;have n2:=abJ.1 n1.2;have n3:=aag.1 n2.2;rcases OF.1 hs with rfl|hs
    ·exact n1.1 (by simp[hb])
    ·rw[abG]at hs
     exact n3.2.2 b (by rw[vF.out];simp[hs]) b (by simp[hb]) rfl)
  ·have e:gg=g:=by simpa[aaT]using hg
   subst e;rcases df with h9|h9
   ·exact .inl (by rw[vF.out];exact h9)
   ·exact .inr (by omega)
theorem J9{E:Kv}{w:AI}{S:List Nat}{x:Tx}{f dm nn:Nat}{Sf:List Nat}{lv fv:No}(h:bf E w S [] x f dm nn Sf lv fv)(n:Nat)(hd:x.az n=none)(hb:x.book E.cq E.U n≠none):
  aaf prog 317 #[.agg #[.pointer (some ⟨E.t,0,none⟩)],.int .i64 n] w (fun e w'=>e= .returned (.int .i64 0)/\jx E S [] { x with aK:=x.aK++[n] } w w'):=by
 obtain⟨hu,hnf,aaO,-⟩:=h.ok.free hd hb;have hr:=h.ok.range.2.2.2.1 n hu;have hle:=h.ok.le;have kA:=h.ok.lim;have hn:n<512:=by omega
 have c5:w.cell? ⟨E.t,5,none⟩=some (.int .i64 x.aa):=h.cells.cell 5;have c8:w.cell? ⟨E.t,8,none⟩=some (.map (some dm)):=h.cells.cell 8;have lt:=h.cells.lt;have lt1:E.t<w.heap.size+1:=by omega
 have Ri:E.t<w.heap.size+1+1:=by omega
 have hl:∀W,ah [] w W->(acR 100 (.map (some dm)) (.int .i64 n) true).run prog W= .ok (.tuple #[.agg #[.int .i64 0,.int .i64 0,.int .i64 0,.string ⟨#[]⟩],.bool false]) W:=fun W hW=>by
  have:=px h n hn W hW;rw[hd]at this;exact this
 have HL:=sh (hl (w.alloc (.cells #[.pointer (some ⟨E.t,0,none⟩)] 111)) ((ah.refl [] w).alloc _));have hl2:=HL.out;obtain⟨A,c,hv,hA,cI⟩:=aV h.aK;have q10:w.cell? ⟨E.t,10,none⟩=some fv:=h.cells.cell 10;have f10:=h.cells.frozen 10;have hlen:x.aK.length<=512:=by
  have h1:=Tr.pw 512 x.aK h.ok.aK (fun b hb=>by have:=h.ok.range.2.2.2.1 b (h.ok.sub b hb);omega);exact h1
 obtain⟨i0,hi,ez,dP,eh⟩:=info_parts dz;have sI:=sh h;have ft:=sh h.aK;have rV:=sh hv;have adD:=sh aaO;obtain⟨m,so⟩:∃m,m=x.aK.length:=⟨_,rfl⟩;have xa:=sh so;have BO:fv= .slice A m c:=by rw[so];exact hv
 rw[<-so]at hlen ft;rw[BO]at q10 ft;have aU:=ft.out;have vF:=sh BO;have W6:=sh (show aaT (.slice A m c)≠some E.t from cz aU h.cells (by decide));have XP:=sh (show ∀W,ah [] w W->aaf prog 157 #[.slice A m c,.int .i64 n] W (fun e w'=>e= .returned (.bool false)/\W=w') from fun W hW=>by
  rw[so];exact qS (Sl.dh (by have h1:=hW.own aU (by simp);rw[so]at h1;exact h1)) (by rw[<-so];omega) n hnf)
 have z1:decide ((n:Int)<1)=false:=decide_eq_false (by omega);have z2:decide ((x.aa:Int)<=(n:Int))=false:=decide_eq_false (by omega);have z3:decide (x.aa<=n)=false:=decide_eq_false (by omega);clear h hl hv hA cI hr hle kA hd BO so hu hnf aaO hb;go_enter func317,ntmps317
 go_wp2_with fail
 (with_reducible refine(XP.out _ ?_).mono ?_)
 ·exact((ah.refl [] w).alloc _).alloc _
 rintro e w2 ⟨rfl,rfl⟩;have Bz:ah [] w ((w.alloc (.cells #[.pointer (some ⟨E.t,0,none⟩)] 111)).alloc (.cells #[.int .i64 0,.int .i64 0,.int .i64 0,.string ⟨#[]⟩] 126)):=((ah.refl [] w).alloc _).alloc _;have BN:((w.alloc (.cells #[.pointer (some ⟨E.t,0,none⟩)] 111)).alloc (.cells #[.int .i64 0,.int .i64 0,.int .i64 0,.string ⟨#[]⟩] 126)).heap.size=w.heap.size+2:=by simp
 have Uc:=sh (sI.out.off Bz (by simp));generalize (w.alloc (.cells #[.pointer (some ⟨E.t,0,none⟩)] 111)).alloc (.cells #[.int .i64 0,.int .i64 0,.int .i64 0,.string ⟨#[]⟩] 126)=w2 at Bz BN Uc |-;have Ys:=sh Bz;have aj4:=sh BN;have am5:w2.cell? ⟨E.t,10,none⟩=some (.slice A m c):=by have:=Uc.out.cells.cell 10;rw[vF.out]at this;exact this
 have akz:=Uc.out.cells.frozen 10;have lt':=Uc.out.cells.lt;have VT:=Bz.own aU (by simp);clear Bz BN q10 f10 c5 c8 hl2;go_wp2_with (first
  | (at_builtin;refine aea _ rfl (.tmp 58) (.tmp 60) 51 rfl 0 3 i0 (.int .i64 0) 1 8 underlying51 hi ez dP eh rfl (by omega) (.slice A m c) m (ints x.aK) rfl (VT.alloc _) ⟨w2.heap.size,0,none⟩ 1 1 [.int .i64 n] rfl rfl (acH (cs:= #[.int .i64 n]) (heap_alloc_new w2 _)) (cK [n]) (by omega) (by unfold abj;omega) (by omega) (by simp) (w2.heap.size+1) (by simp) ?_;intro gg gH w3 ax aQ df uo;have lQ:=(aQ.block E.t (by simp;omega) (fun e=>W6.out e.symm)).trans (Uc.out.cells.alloc (.cells #[.int .i64 n] 3));have y0:w3.cell? ⟨E.t,10,none⟩=some fv:=Bk.cell lQ 10;have y1:=Bk.frozen lQ 10;have y2:=Bk.lt lQ)
  | fail)
 all_goals
  go_ret
  have jg:ah (E.t::(aaT (.slice A m c)).toList) w2 (w3.setCell ⟨E.t,10,none⟩ (.slice (some ⟨gg,0,none⟩) (m+1) gH)):=
   (((ah.refl _ w2).alloc (.cells #[.int .i64 n] 3)).grown aQ (fun g hg=> .inl (by rw[hg];simp))).setCell (.inl (by simp)) _
  have hgt:gg≠E.t:=fun e=>by
   have:=cz ax lQ (by decide);rw[e]at this;exact this rfl
  have kB:ah [E.t] w3 (w3.setCell ⟨E.t,10,none⟩ (.slice (some ⟨gg,0,none⟩) (m+1) gH)):=(ah.refl _ _).setCell (.inl (by simp)) _;have aX:=bf.grow (x':={ x with aK:=x.aK++[n] }) (lv':=lv) (fv':= .slice (some ⟨gg,0,none⟩) (m+1) gH) Uc.out (hd':=[]) ?_ jg (fun b hb=> ?_) rfl rfl ?_ ?_ (fun g hg=> .inl hg) (fun g hg=> ?_) (.inl rfl) adD.out
  ·obtain⟨S3,f3,Gg,KG,xc,GU,Gm,k1,k2,k3⟩:=aX
   exact⟨rfl,S3,f3,Gg,KG,xc,GU,Gm,k1,(Ys.out.mono (by simp)).trans k2,k3.mono Ys.out.size⟩
  ·exact Bk.put lQ 10 (.slice (some ⟨gg,0,none⟩) (m+1) gH)
  ·rcases OF.1 hb with rfl|hb
   ·exact .inl rfl
   ·rw[abG]at hb
    exact .inr (.inr (by rw[vF.out];exact hb))
  ·have h8:=Uc.out.loose
   exact jg.own h8 (fun b hb hs=>by
    have bI:=sI.out.nodup;unfold aB at bI;have n1:=abJ.1 bI;have n2:=abJ.1 n1.2;have n3:=aag.1 n2.2;rcases OF.1 hs with rfl|hs
    ·exact n1.1 (by simp[hb])
    ·rw[abG]at hs
     exact n3.2.2 b (by simp[hb]) b (by rw[vF.out];simp[hs]) rfl)
  ·have h9:=kB.own ax (fun b hb hs=>by
    rw[IN]at hs;subst hs;exact hgt (by simpa[aaT]using hb))
   show World.ownsRow _ 0 _ 1 _ (x.aK++[n]).length (ints (x.aK++[n]));rw[AT,fK,<-xa.out];exact h9
  ·have e:gg=g:=by simpa[aaT]using hg
   subst e;rcases df with h9|h9
   ·exact .inl (by rw[vF.out];exact h9)
   ·exact .inr (by omega)
theorem bK{E:Kv}(hE:E.Ok)(F:Prop):cR (gA E F) where
 off:=by
  rintro w w' S U σ k ⟨x,f,dm,nn,Sf,lv,fv,h,hσ,hk⟩ ho hU;exact⟨x,f,dm,nn,Sf,lv,fv,h.off ho hU,hσ,hk⟩
 old:=by
  rintro w S σ k ⟨x,f,dm,nn,Sf,lv,fv,h,hσ,hk⟩;exact h.old
 less:=by
  rintro w S σ k k' ⟨x,f,dm,nn,Sf,lv,fv,h,hσ,hk⟩ kz;exact⟨x,f,dm,nn,Sf,lv,fv,h,hσ,hk.less kz⟩
 load:=by
  refine⟨318,.agg #[.pointer (some ⟨E.t,0,none⟩)],fun W=>by kernel_rfl,fun W=>by kernel_rfl,fun args W=>by kernel_rfl,?_⟩;rintro w S σ k no p ⟨x,f,dm,nn,Sf,lv,fv,h,rfl,hk⟩ hp;cases hd:x.az no with
  | some q=>
   have e:q=p:=by unfold Tx.book at hp;rw[hd]at hp;exact aek hp
   subst e;exact Kc h no q hd
  | none=>
   have lV:E.cq no=some p/\no∈E.U:=by
    unfold Tx.book at hp;rw[hd]at hp;simp only at hp;by_cases hc:no∈E.U/\no∉x.aK
    ·rw[if_pos hc]at hp;exact⟨hp,hc.1⟩
    ·rw[if_neg hc]at hp;cases hp
   exact FV hE h no p hd lV.2 lV.1
 drop:=by
  refine⟨317,.agg #[.pointer (some ⟨E.t,0,none⟩)],fun W=>by kernel_rfl,fun W=>by kernel_rfl,fun args W=>by kernel_rfl,?_⟩;rintro w S σ k no ⟨x,f,dm,nn,Sf,lv,fv,h,rfl,hk⟩ hp;by_cases hd:x.az no=none
  ·obtain⟨h1,h2,h3,h4⟩:=h.ok.free hd hp
   refine(J9 h no hd hp).mono ?_;rintro e w' ⟨rfl,S',f',UL,uR,Uy,lv',fv',k1,k2,k3⟩;exact⟨rfl,S',⟨_,f',UL,uR,Uy,lv',fv',k1,h4.symm,hk.free _⟩,k2,k3⟩
  ·obtain⟨h1,h2⟩:=h.ok.EY hd
   refine(Ka h no hd).mono ?_;rintro e w' ⟨rfl,S',f',UL,uR,Uy,lv',fv',k1,k2,k3⟩;refine⟨rfl,S',⟨_,f',UL,uR,Uy,lv',fv',k1,h2.symm,hk.EY hd⟩,k2,k3⟩
 make:=by
  refine⟨319,.agg #[.pointer (some ⟨E.t,0,none⟩)],fun W=>by kernel_rfl,fun W=>by kernel_rfl,fun args W=>by kernel_rfl,?_⟩;rintro w S σ k p ⟨x,f,dm,nn,Sf,lv,fv,h,rfl,hk⟩ hF dy cO hb;refine(Ke hE h p (by omega)).mono ?_;rintro e w' (⟨n,x',rfl,dY,fA,S',f',UL,uR,Uy,lv',fv',k1,k2,k3⟩|⟨rfl,hs,S',f',UL,uR,Uy,lv',fv',k1,k2,k3⟩)
  ·have hr:=fA.range.2.2.2.2.2 n (by simp)
   have hle:=fA.le;have kA:=fA.lim;have aT:x'.book E.cq E.U=x.book E.cq E.U:=by
    have:=dY.az;unfold Tx.book;rw[this.1,this.2]
   obtain⟨Dg,VJ⟩:=hk.take dY hF;refine .inl ⟨n,rfl,hr.1,by omega,by rw[<-aT];exact fA.Ih,S',⟨_,f',UL,uR,Uy,lv',fv',k1,by rw[Tx.Lz,aT],Dg.lay VJ p⟩,k2,k3⟩
  ·have hf:F:=by
    rcases hF with hF|hF
    ·exact hF
    ·have:=hk.sure;omega
   exact .inr ⟨hf,rfl,x.book E.cq E.U,S',⟨x,f',UL,uR,Uy,lv',fv',k1,rfl,hk.zero⟩,k2,k3⟩
end Go.Proofs.YtjbcbnemdhbhbaaGreatDoor
namespace Go.Proofs.YtjbcbnemdhbhbaaGreatDoor
open Go.Proofs.Tryz
open Go.RowKit Go.Maps Go.Sort Go.Shelf
theorem UK(m:Nat)(W:AI):aaf prog 64 #[.map (some m)] W fun e w'=>e= .returned (.func (.func 124) #[] #[.pointer (some ⟨W.heap.size,0,none⟩)])/\w'=W.alloc (.cells #[.map (some m)] 100):=
 (agd (n:=6)).1 (AnyZI.keys_in Tryz.keysB agp 6 trivial rfl (some m) W)
theorem LR{w:AI}{m nn:Nat}{V:Int->Option No}(h:IMap prog 3 w m nn V)(hn:nn<=1000000000)(keys:List Int)(hk:keys.Pairwise (· < ·))(hm:∀x,x∈keys↔(V x).isSome=true):
  aaf prog 63 #[.func (.func 124) #[] #[.pointer (some ⟨w.heap.size,0,none⟩)]] (w.alloc (.cells #[.map (some m)] 100))
   (DD keys (w.heap.size+1) (w.alloc (.cells #[.map (some m)] 100))):=by
 obtain⟨D,aq,ha⟩:=h;have fV:=aq.lt;have cZ:=aq.size_le;have Wa:SeqGives agp 2 prog 124 #[.pointer (some ⟨w.heap.size,0,none⟩)] encZ (fun ss=>ss.Perm (intKeys D)) (Maps.size D) (w.alloc (.cells #[.map (some m)] 100)):=
  AnyZI.keys_gives (ρ :=Tryz.keysB_ren) { Tryz.keysB with } agp _ trivial rfl (by omega) w.heap.size m nn D _ (by simp) (by simp) (by
   obtain⟨es,clock,hb,Ft,hs,hD⟩:=aq;exact⟨es,clock,(agP _ _ m fV).trans hb,Ft,hs,hD⟩)
 have cS:=AnyZI.sorted_in Tryz.sortedA agp 5 trivial trivial trivial trivial rfl (by omega) (WI _) (enters_of func79 (by kernel_rfl) rfl) 124 #[.pointer (some ⟨w.heap.size,0,none⟩)] trivial (enters_of func124 (by kernel_rfl) rfl) _ _ (by unfold abj;omega) (by omega) _ Wa
 change CallsIn _ _ prog 63 _ _ _ at cS
 have c2:=agd.1 cS;refine c2.mono ?_;rintro e w' ⟨v,ss,rfl,hS,bd,Ev,hb⟩;have e1:(w.alloc (.cells #[.map (some m)] 100)).heap.size=w.heap.size+1:=by simp
 rw[e1]at bd hb;obtain⟨es,rfl,hp,iV⟩:=aq.entries (int_keyed underlying3);have fg:keys.Perm (intKeys (.map es)):=by
  refine perm_intKeys hp ?_ (hk.imp (by intro a b h;omega)) (fun x=> ?_)
  ·intro p lV
   have h1:afE (.map es) p.1=true:=List.any_eq_true.2 ⟨p,lV,WideAt.sameKey_self (iV p lV)⟩;obtain⟨i,v,_,he⟩:=ha.2 _ h1;exact⟨i,he⟩
  ·rw[hm x,eO ha]
 have hs:ss.mergeSort (fun x y=>decide (x<=y))=keys:=Ws (hS.trans fg.symm) hk;rw[hs]at bd;have hlen:ss.length=keys.length:=by rw[(hS.trans fg.symm).length_eq]
 rw[hlen]at bd;exact⟨v,rfl,bd,hb⟩
theorem WJ(m:Nat):AnyZ.SortsIn prog Tryz.sortedS_ren agp m:=
 ⟨fun jH off cap ss W hH nh cZ=>agd.2 (AnyM.slices_Sort_string Tryz.sortS jH off cap ss W hH nh cZ),
  fun p cap W=>agd.2 (AnyM.slices_Sort_string_none Tryz.sortS p cap W)⟩
theorem abA(m:Nat)(W:AI):aaf prog 168 #[.map (some m)] W fun e w'=>e= .returned (.func (.func 228) #[] #[.pointer (some ⟨W.heap.size,0,none⟩)])/\w'=W.alloc (.cells #[.map (some m)] 101):=
 (agd (n:=6)).1 (AnyZ.keys_in Tryz.keysS agp 6 trivial rfl (some m) W)
theorem rF{H:Type}{es:List (Lit×DataW H)}(hk:∀p∈es,∃x,p.1= .string x)(x:List UInt8):x∈strKeys (.map es)↔afE (.map es) (.string x)=true:=by
 rw[has_eq,List.any_eq_true];show x∈es.map (fun p=>strOf p.1)↔_;rw[abK];constructor
 ·rintro⟨p,lV,rfl⟩
  obtain⟨a,ha⟩:=hk p lV;exact⟨p,lV,by rw[ha];simp[Lit.sameKey,strOf]⟩
 ·rintro⟨p,lV,hs⟩
  obtain⟨a,ha⟩:=hk p lV;rw[ha]at hs;exact⟨p,lV,by rw[ha];simpa[Lit.sameKey,strOf]using hs⟩
def Aq (V:ByteArray->Option No) (nn:Nat) (B:Nat) (w:AI) (e:Ending) (w':AI):Prop:=
 ∃(v:No) (names:List ByteArray),e= .returned v/\names.Nodup/\(∀n,n∈names↔(V n).isSome=true)/\names.length<=nn/\w'.ownsRow B 9 1 v names.length (names.map Value.string)/\IT B w w'
theorem Rv{w:AI}{m nn:Nat}{V:ByteArray->Option No}(h:SMap prog 9 w m nn V)(hn:nn<=1000000000):
  aaf prog 167 #[.func (.func 228) #[] #[.pointer (some ⟨w.heap.size,0,none⟩)]] (w.alloc (.cells #[.map (some m)] 101))
   (Aq V nn (w.heap.size+1) (w.alloc (.cells #[.map (some m)] 101))):=by
 obtain⟨D,aq,ha⟩:=h;have fV:=aq.lt;have cZ:=aq.size_le;have Wa:SeqGives agp 2 prog 228 #[.pointer (some ⟨w.heap.size,0,none⟩)] encStr (fun ss=>ss.Perm (strKeys D)) (Maps.size D) (w.alloc (.cells #[.map (some m)] 101)):=
  AnyZ.keys_gives (ρ :=Tryz.keysS_ren) { Tryz.keysS with } agp _ trivial rfl (by omega) w.heap.size m nn D _ (by simp) (by simp) (by
   obtain⟨es,clock,hb,Ft,hs,hD⟩:=aq;exact⟨es,clock,(agP _ _ m fV).trans hb,Ft,hs,hD⟩)
 have cS:=AnyZ.sorted_in Tryz.sortedS agp 5 trivial trivial trivial trivial rfl (by omega) (WJ _) (enters_of func227 (by kernel_rfl) rfl) 228 #[.pointer (some ⟨w.heap.size,0,none⟩)] trivial (enters_of func228 (by kernel_rfl) rfl) _ _ (by unfold abj;omega) (by omega) _ Wa
 change CallsIn _ _ prog 167 _ _ _ at cS
 have c2:=agd.1 cS;refine c2.mono ?_;rintro e w' ⟨v,ss,rfl,hS,bd,Ev,hb⟩;have e1:(w.alloc (.cells #[.map (some m)] 101)).heap.size=w.heap.size+1:=by simp
 rw[e1]at bd hb;obtain⟨es,rfl,hp,iV⟩:=aq.entries (string_keyed underlying9);obtain⟨es',hD',hko⟩:=aq.keysOf;obtain rfl:es=es':=by simpa using hD'
 have ia:∀p∈es,∃x,p.1= .string x:=fun p hp=>by
  obtain⟨v,hv⟩:=hko p hp;obtain⟨x,_,hx,_⟩:=Maps.keyOf_str underlying9 hv;exact⟨x,hx⟩
 have fg:(ss.mergeSort (fun x y=>decide (x<=y))).Perm (strKeys (.map es)):=(List.mergeSort_perm _ _).trans hS;have hlen:(strKeys (.map es)).length=Maps.size (.map es):=by
  show (es.map _).length=_;rw[IS];rfl
 refine⟨v,(ss.mergeSort (fun x y=>decide (x<=y))).map (fun l=>⟨l.toArray⟩),rfl,?_,fun n=> ?_,?_,?_,hb⟩
 ·unfold List.Nodup
  rw[adB];have bI:(strKeys (.map es)).Nodup:=by
   show (es.map fun p=>strOf p.1).Nodup;refine adB.2 (hp.imp_of_mem fun {p q} lV hq' bM e=>bM ?_);obtain⟨a,ha⟩:=ia p lV;obtain⟨b,hb⟩:=ia q hq';rw[ha,hb]at e |-;exact congrArg _ e
  refine(fg.nodup_iff.2 bI).imp fun {a b} oU he=>oU ?_;injection he with he;have:=congrArg Array.toList he;simpa using this
 ·rw[abK,<-iC ha]
  constructor
  ·rintro⟨l,hl,rfl⟩
   have:=(rF ia l).1 (fg.mem_iff.1 hl);simpa using this
  ·intro hh
   refine⟨n.data.toList,fg.mem_iff.2 ((rF ia _).2 hh),?_⟩;obtain⟨⟨l⟩⟩:=n;rfl
 ·rw[IS,fg.length_eq,hlen];exact cZ
 ·rw[IS,List.map_map]
  have h2:ss.length=(ss.mergeSort (fun x y=>decide (x<=y))).length:=by rw[fg.length_eq,hS.length_eq]
  rw[h2]at bd;exact bd
end Go.Proofs.YtjbcbnemdhbhbaaGreatDoor
