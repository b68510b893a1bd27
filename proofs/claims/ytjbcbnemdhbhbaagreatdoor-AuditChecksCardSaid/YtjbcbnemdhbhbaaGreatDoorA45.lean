import Derived.Test.YtjbcbnemdhbhbaaGreatDoorA41
import Derived.Test.YtjbcbnemdhbhbaaGreatDoorA43
import Derived.Test.YtjbcbnemdhbhbaaGreatDoorA44
set_option maxRecDepth 100000
set_option linter.unusedVariables false
set_option linter.unusedSimpArgs false
set_option maxHeartbeats 40000000
open Go renaming Calls→aaf,Value→No,World→AI
open Go.Lib renaming hid→sh
open Go.RowKit renaming Below→IT
open Go.RowKit.Below renaming refl→BY
open Go.Value renaming ownBlock→aaT
open Go.World renaming ownsRow_nil→ack
open Go.World.ownsRow renaming lt→abq
open List renaming filter_cons_of_neg→adE,filter_cons_of_pos→afW,length_append→AT,length_cons→abv,length_map→IS,length_range→adT,mem_append→By,mem_cons→OF,mem_singleton→IN,nodup_append→aag,nodup_nil→aff
open List.Pairwise renaming nil→aey
open Nat renaming le_refl→AS,le_trans→abw,lt_of_lt_of_le→aal,zero_le→abi
open Option renaming mem_toList→abG
namespace Go.Proofs.YtjbcbnemdhbhbaaGreatDoor
open Go.Proofs.Tryz
open Go.RowKit
theorem Cp(q:Nat)(w:AI):aaf prog 100 #[.pointer (some ⟨q,0,none⟩),.int .i64 0] w (fun e w'=>∃f Sf,e= .returned (.tuple #[.pointer (some ⟨f,0,none⟩),.slice none 0 0,.int .i64 0])/\rT w' f Sf []/\(∀x∈Sf,w.heap.size<=x)/\IT w.heap.size w w'):=by
 have HF:=sh fun(W:AI)=>LX W;go_enter func100,ntmps100
 go_wp2_with fail
 refine(HF.out _).mono ?_;rintro e w1 ⟨rfl,hf,hb⟩;have HE:=sh hf;have HB:=sh hb;clear hf hb;go_wp2_with fail
 refine wp_loop_rounds 2 ?_;rw[rounds_succ];go_wp2_with fail
 refine bodyPost_ret (v:= .tuple #[.pointer (some ⟨w.heap.size,0,none⟩),.slice none 0 0,.int .i64 0]) (by simp[results,results100,go_sem]) rfl ?_;exact⟨_,_,rfl,HE.out,fun x hx=>by rw[IN]at hx;omega,HB.out⟩
def Uu (g:Nat) (P:eK) (w:AI) (e:Ending) (w':AI):Prop:=∃b q r f Sf,e= .returned (.tuple #[.pointer (some ⟨b,0,none⟩),.int .i64 0])/\fs w' ⟨b,q,r,f,g,[q],Sf,P,St.empty,[],.slice none 0 0,[],.pointer none⟩/\w.heap.size<=b/\w.heap.size<=q/\w.heap.size<=r/\(∀x∈Sf,w.heap.size<=x)/\IT w.heap.size w w'
theorem Ng{g:Nat}{S:List Nat}{D:DevS}{P:eK}{w:AI}(hd:Dev w g S D)(hr:aS w)(hb:D.steps<=1000000000)(h0:dQ D=0)(hP:kQ D=P)(hf:P.m.f=0):
  aaf prog 43 #[ptr g] w (Uu g P w):=by
 have HO:=sh (GZ hd hr hb h0 hP);have Kx:∀W:AI,Sem.run prog (Instr.field 40 (.agg #[.int .i64 P.m.t,.int .i64 P.m.r,.int .i64 P.m.f,.int .i64 P.m.p,.int .i64 P.m.l]) 2) W= .ok (.int .i64 0) W:=fun W=>by rw[TJ,hf]
 have Sb:=sh fun(q:Nat) (W:AI)=>Cp q W;have Uk:=sh fun(W:AI)=>x9 W;clear hd hr hb h0 hP hf;go_enter func43,ntmps43
 go_wp2_with fail
 refine HO.out.mono ?_;rintro e w1 ⟨q,hq,rfl,uy,ar⟩;have HP:=sh uy;have bh:=sh ar;have HM:=sh (mU uy);have MU:=uy.old q (by simp);clear uy ar;go_wp2_with fail
 refine HM.out.mono ?_;rintro e w2 ⟨rfl,aC⟩;have bm:=sh (bh.out.trans (aC.mono bh.out.size));have pL:=sh (HP.out.below aC);have Q7:=aal MU aC.size;clear aC;go_wp2_with fail
 refine(Sb.out _ _).mono ?_;rintro e w3 ⟨f,Sf,rfl,uj,hfn,aN⟩;have du:=sh (bm.out.trans (aN.mono bm.out.size));have Yw:=sh (pL.out.below aN);have Kk:=sh uj;have HFN:=sh (show ∀x∈Sf,w.heap.size<=x from fun x hx=>abw bm.out.size (hfn x hx));have Pq:=aal Q7 aN.size;clear aN uj hfn;go_wp2_with fail
 refine(Uk.out _).mono ?_;rintro e w4 ⟨rfl,XA,bT⟩;have fU:=sh (du.out.trans (bT.mono du.out.size));have Yx:=sh (Yw.out.below bT);have KX:=sh XA;have XV:=sh (Kk.out.below bT);have KR:=sh Kk.out.old;have hz4:=bT.size;have al5:=XA.lt;clear bT XA;go_wp2_with fail
 go_ret2
 refine⟨w4.heap.size,q,w3.heap.size,f,Sf,rfl,⟨Bk.new w4 _ _,Yx.out.below ((BY _ _).alloc (AS _) _),KX.out.alloc _,(XV.out.below ((BY _ _).alloc (AS _) _)).fl,ack _ _ _ _,?_,?_⟩,fU.out.size,hq,du.out.size,HFN.out,fU.out.alloc fU.out.size _⟩
 ·intro hm
  simp only[By,IN]at hm;rcases hm with hm|hm|hm
  ·have:w4.heap.size=q:=hm
   omega
  ·have:=XV.out.old _ hm;omega
  ·cases hm
 ·intro hm
  simp only[By,IN]at hm;rcases hm with hm|hm|hm
  ·have:w3.heap.size=q:=hm
   omega
  ·have:=KR.out _ hm;omega
  ·cases hm
structure zY (D:DevS) (P:eK) (fr:List (Nat×Nat)) (gW:List Nat) (σ :ag) (Fo:Forest) (txn aa limit:Nat):Prop where
 calm:D.Calm
 m:P.m=⟨txn,Fo.main.root,(gW.headD 0:Nat),aa,limit⟩
 bA:P.bA=none
 sec:D.sec.length=4*limit
 lim:4<=limit/\limit<=512
 t1:1<=txn
 steps:D.steps<=3000*(txn:Int)
 log:P.log.length<=600*txn
 ok:Fo.Ok σ
 R:∀n,Fo.R n=none
 on:dv D σ
 one:1<=aa/\aa<=limit
 perm:(Fr.pg fr++(Fo.aa++gW)).Perm (gV aa)
 sorted:Fr.Sorted fr
 eQ:∀y∈fr,y.1<=txn
 r9:gW.length<=Fr.pieces limit
structure fD (w:AI) (d:Di) (Sd:List Nat) (D:DevS) (σ :ag) (Fo:Forest) (txn aa limit:Nat):Prop where
 db:fs w d
 dev:Dev w d.g Sd D
 row:aS w
 plain:zY D d.P d.fr d.gW σ Fo txn aa limit
 ap:d.b∉Sd/\d.r∉Sd/\(∀x∈d.T,x∉Sd)/\0∉Sd/\0∉d.T
 pv:∀g,d.pv.ownBlock=some g->g∉d.T/\g∉Sd/\g≠0
 wv:d.wv= .pointer none\/∃t cs,d.wv= .pointer (some ⟨t,0,none⟩)/\Bk w t 103 cs/\cs[13]? =some (.bool true)
structure Kv.acN (E:Kv):Prop where
 calm:E.D.Calm
 bA:E.P.bA=none
 sec:E.D.sec.length=4*E.limit
 lim:4<=E.limit/\E.limit<=512
 t:(E.txn:Int)=E.P.m.t+1
 txn:2<=E.txn/\E.txn<=1001
 steps:E.D.steps<=3000*((E.txn:Int)-1)
 log:E.P.log.length<=600*(E.txn-1)
 l:(E.limit:Int)=E.P.m.l
structure rX (E:Kv) (F:Prop) (w:AI) (S:List Nat) (σ :ag) (k:Nat) (Fo:Forest) (nr:Nat):Prop where
 wr:Wr E F w S σ k Fo nr
 ok:E.Ok
 sep:E.Sep
 qi:E.acN
 on:dv E.D E.cq
 pv:w.ownsRow 0 3 1 E.c3 E.pc.length (ints E.pc)
 N1:∀g,E.c3.ownBlock=some g->g∉S/\g≠E.rm
 c4:E.c4= .pointer (some ⟨E.t,0,none⟩)
def Di.kv (d:Di) (t rm:Nat) (Sd:List Nat) (D:DevS) (σ :ag) (Fo:Forest) (txn limit:Nat) (ro:Option Obj) (base:Nat) (keep:List Nat):Kv:=
 ⟨t,d.b,d.q,d.r,d.g,d.T,Sd,d.P,D,d.s,txn+1,Fo.main.root,(d.gW.headD 0:Nat),limit,Fo.aa,d.gW,σ,rm,0,false,.pointer (some ⟨d.f,0,none⟩),d.pv,.pointer (some ⟨t,0,none⟩),ro,base,keep,(d.fr.filter fun y=>decide ((min ((txn:Int)-1) (d.s.di (txn:Int))).toNat<y.1)).length⟩
def qj (fr:List (Nat×Nat)) (limit aa:Nat) (u:Int):Nat:=(fr.takeWhile fun y=>decide (y.1<=u.toNat)).length+(limit-aa)
theorem Ig{w w':AI}{d:Di}{Sd:List Nat}{D:DevS}{σ :ag}{Fo:Forest}{txn aa limit:Nat}(h:fD w d Sd D σ Fo txn aa limit)(ht:txn<=1000)(hu:0<=min ((txn:Int)-1) (d.s.di (txn:Int))){F:Prop}{base k:Nat}{keep:List Nat}(ia:k<=qj d.fr limit aa (min ((txn:Int)-1) (d.s.di (txn:Int))))(QS:F\/base+k<=d.fr.length+(limit-aa))(Mr:∀y∈d.fr,y.1<=(min ((txn:Int)-1) (d.s.di (txn:Int))).toNat->y.2∉keep)(Xr:∀n∈keep,n<aa)
  {t f dm rm:Nat} {Sf:List Nat} (hb:KJ d w w' t f dm rm Sf):
  ∃S,rX (d.kv t rm Sd D σ Fo txn limit w.heap[0]? base keep) F w' S σ k Fo 0/\ah [d.b] w w'/\(∀x∈S,x∈0::(d.blocks++Sd)\/w.heap.size<=x)/\w.heap.size<=rm:=by
 have hp:=h.plain;have hm:=hp.m;have Td:∀x∈Sd,x∉[d.b]:=fun x hx hs=>by rw[IN]at hs;subst hs;exact h.ap.1 hx
 have ZR:Dev w' d.g Sd D:=h.dev.off hb.off Td;have hold:=h.db.old;have hd:∀n,σ n≠none->n∈Fo.aa:=hp.ok.full;have dw:∀n∈Fo.aa,1<=n/\n<aa:=fun n hn=>dA.1 (hp.perm.mem_iff.1 (by simp[hn]));obtain⟨sl,lg,uy⟩:=h.db.pg;have hq:d.q∈d.T:=uy.zj.1;have jC:∀x∈(d.kv t rm Sd D σ Fo txn limit w.heap[0]? base keep).still,x<w.heap.size:=by
  intro x hx;simp only[Kv.still,Di.kv,OF,By]at hx;rcases hx with rfl|rfl|rfl|rfl|hx|hx
  ·exact h.db.top.lt
  ·exact hold _ (by simp[Di.blocks,hq])
  ·exact h.db.rd.lt
  ·exact h.row.lt
  ·exact hold _ (by simp[Di.blocks,hx])
  ·exact h.dev.old _ hx
 have wh:∀x∈aB t f dm Sf (.slice none 0 0) (.slice none 0 0),w.heap.size<=x:=by
  intro x hx;simp only[aB,aaT,OF,By,abG]at hx;rcases hx with rfl|rfl|hx|hx|hx
  ·exact hb.new.1
  ·exact hb.new.2.1
  ·cases hx
  ·cases hx
  ·exact hb.new.2.2.2 _ hx
 have Px:(txn:Int)=d.P.m.t:=by rw[hm]
 have xI:(limit:Int)=d.P.m.l:=by rw[hm]
 have hE:(d.kv t rm Sd D σ Fo txn limit w.heap[0]? base keep).Ok:=by
  refine⟨?_,?_,hp.calm.on,?_,xI,?_,?_⟩
  ·show 2<=txn+1
   have:=hp.t1;omega
  ·show txn+1<=1099511627776
   omega
  ·show D.steps<=1000000000
   have:=hp.steps;omega
  ·intro n p hn
   obtain⟨h1,t',h2⟩:=hp.on n p hn;have:=(dw n (hd n (by rw[show (σ n)=some p from hn];simp))).2;have:=hp.one.2;exact⟨show n<limit by omega,t',h2⟩
  ·show 0<=min (((txn+1:Nat):Int)-2) (d.s.di (((txn+1:Nat):Int)-1))
   have e1:(((txn+1:Nat):Int)-2)=(txn:Int)-1:=by omega
   have e2:(((txn+1:Nat):Int)-1)=(txn:Int):=by omega
   rw[e1,e2];exact hu
 have gm:Bk w' t 103 (aO (d.kv t rm Sd D σ Fo txn limit w.heap[0]? base keep) ⟨aa,d.fr,fun _=>none,[],[]⟩ f dm (.slice none 0 0) (.slice none 0 0)):=by
  have:=hb.cells;rw[hm]at this;exact this
 have rp:w'.ownsRow 0 3 1 (.slice none 0 0) ([]:List Nat).length (ints []):=ack _ _ _ _;refine⟨aB t f dm Sf (.slice none 0 0) (.slice none 0 0)++(d.kv t rm Sd D σ Fo txn limit w.heap[0]? base keep).still,⟨⟨⟨⟨aa,d.fr,fun _=>none,[],[]⟩,f,dm,0,Sf,.slice none 0 0,.slice none 0 0,⟨gm,hb.free.fl,?_,by omega,rp,rp,hb.db.top,hb.db.rd,hb.db.pg,ZR,(show kJ w.heap[0]? w from ⟨h.row,rfl⟩).off hb.off ?_,?_,rfl,?_,?_⟩,?_,?_⟩,⟨0,AS _,?_⟩,?_,hp.ok,rfl,rfl,rfl⟩,hE,⟨?_,h.ap.2.1 |> fun _=> ?_,h.ap.2.2.1⟩,?_,hp.on,?_,?_,rfl⟩,hb.off,?_,hb.new.2.2.1⟩
 ·have e:dK (d.kv t rm Sd D σ Fo txn limit w.heap[0]? base keep).txn (fun _=>none)=fun _=>none:=by funext i;unfold dK;split<;>rfl
  rw[show (⟨aa,d.fr,fun _=>none,[],[]⟩:Tx).az=fun _=>none from rfl,e];exact hb.map
 ·intro hs
  rw[IN]at hs;have h1:=h.row 0 (by omega);have h2:=h.db.top.cell 0;rw[<-hs]at h2;exact absurd (h1.symm.trans h2) (by simp)
 ·refine⟨⟨[],by simp,?_⟩,hp.one.1,hp.one.2,hp.lim.2,hp.sorted,aff,by simp,fun n hn=>hp.ok.there hn,fun y hy=>by have:=hp.eQ y hy;omega⟩
  show (Fr.pg d.fr++([]++([]++(Fo.aa++(d.gW++[]))))).Perm (gV aa);simpa using hp.perm
 ·have:=hb.nodup
  show (t::dm::([]++([]++Sf))).Nodup;simpa using this
 ·intro x hx hs
  have h1:=wh x hx;have h2:=jC x hs;omega
 ·funext n
  show σ n=(if n∈Fo.aa/\n∉([]:List Nat)then σ n else none);by_cases hn: σ n=none
  ·rw[hn];simp
  ·rw[if_pos ⟨hd n hn,by simp⟩]
 ·have e1:(d.kv t rm Sd D σ Fo txn limit w.heap[0]? base keep).upto=min ((txn:Int)-1) (d.s.di (txn:Int)):=by
   show min (((txn+1:Nat):Int)-2) (d.s.di (((txn+1:Nat):Int)-1))=_;rw[show (((txn+1:Nat):Int)-2)=(txn:Int)-1 by omega,show (((txn+1:Nat):Int)-1)=(txn:Int)by omega]
  have afj:F\/(base<=d.fr.length+(limit-aa)/\base+k<=d.fr.length+(limit-aa)):=QS.imp id (fun h9=>⟨by omega,h9⟩);refine⟨?_,fun y hy=>Nat.lt_succ_of_le (hp.eQ y hy),afj,fun y hy h9=>Mr y hy (by rw[e1]at h9;exact h9),fun n hn=> ?_,Xr,?_⟩
  ·refine abw ia ?_
   unfold Tx.sure qj;rw[e1];show _<=0+(List.takeWhile _ d.fr).length+(limit-aa);omega
  ·rcases hn with hn|hn
   ·cases hn
   ·exact absurd rfl hn
  ·show (d.fr.filter fun y=>decide ((d.kv t rm Sd D σ Fo txn limit w.heap[0]? base keep).upto.toNat<y.1)).length<=(d.fr.filter fun y=>decide ((min ((txn:Int)-1) (d.s.di (txn:Int))).toNat<y.1)).length
   rw[e1];exact AS _
 ·have e:dC Fo.R=fun _=>none:=by funext n;unfold dC;rw[hp.R n];rfl
  rw[e];exact hb.roots
 ·intro hs
  rcases By.1 hs with hs|hs
  ·have:=hb.rm
   simp only[aB,aaT,OF,By,abG]at hs;simp only[OF,not_or]at this;rcases hs with hs|hs|hs|hs|hs
   ·exact this.1 hs
   ·exact this.2.1 hs
   ·cases hs
   ·cases hs
   ·exact this.2.2 hs
  ·have h1:=jC _ hs
   have:=hb.new.2.2.1;show False;have:rm<w.heap.size:=h1;omega
 ·exact⟨fun hs=>h.db.bo (by simp[show d.b∈d.T from hs]),fun hs=>h.db.ro (by simp[show d.r∈d.T from hs]),h.ap.2.2.2.2⟩
 ·exact⟨h.ap.1,h.ap.2.1,h.ap.2.2.2.1⟩
 ·refine⟨hp.calm,hp.bA,hp.sec,hp.lim,?_,⟨?_,?_⟩,?_,?_,xI⟩
  ·show ((txn+1:Nat):Int)=d.P.m.t+1
   omega
  ·show 2<=txn+1
   have:=hp.t1;omega
  ·show txn+1<=1001
   omega
  ·show D.steps<=3000*(((txn+1:Nat):Int)-1)
   have:=hp.steps;omega
  ·show d.P.log.length<=600*(txn+1-1)
   have:=hp.log;omega
 ·exact hb.db.gW
 ·intro g hg
  have Vt:=(abq h.db.gW g hg).2;refine⟨fun hs=> ?_,fun e=> ?_⟩
  ·rcases By.1 hs with hs|hs
   ·have:=wh g hs;omega
   ·simp only[Kv.still,Di.kv,OF,By]at hs
    have Q6:=h.pv g hg;rcases hs with rfl|rfl|rfl|rfl|hs|hs
    ·exact h.db.bo (by simp[show d.pv.ownBlock=some d.b from hg])
    ·exact Q6.1 hq
    ·exact h.db.ro (by simp[show d.pv.ownBlock=some d.r from hg])
    ·exact Q6.2.2 rfl
    ·exact Q6.1 hs
    ·exact Q6.2.1 hs
  ·have:g=rm:=e
   have:=hb.new.2.2.1;omega
 ·intro x hx
  rcases By.1 hx with hx|hx
  ·exact .inr (wh x hx)
  ·simp only[Kv.still,Di.kv,OF,By]at hx
   rcases hx with rfl|rfl|rfl|rfl|hx|hx
   ·exact .inl (by simp[Di.blocks])
   ·exact .inl (by simp[Di.blocks,hq])
   ·exact .inl (by simp[Di.blocks])
   ·exact .inl (by simp)
   ·exact .inl (by simp[Di.blocks,hx])
   ·exact .inl (by simp[hx])
theorem D5{w:AI}{d:Di}{Sd:List Nat}{D:DevS}{σ :ag}{Fo:Forest}{txn aa limit:Nat}(h:fD w d Sd D σ Fo txn aa limit)(ht:txn<=1000)(hu:0<=min ((txn:Int)-1) (d.s.di (txn:Int))){F:Prop}{base k:Nat}{keep:List Nat}(ia:k<=qj d.fr limit aa (min ((txn:Int)-1) (d.s.di (txn:Int))))(QS:F\/base+k<=d.fr.length+(limit-aa))(Mr:∀y∈d.fr,y.1<=(min ((txn:Int)-1) (d.s.di (txn:Int))).toNat->y.2∉keep)(Xr:∀n∈keep,n<aa):
  aaf prog 11 #[.pointer (some ⟨d.b,0,none⟩)] w (fun e w'=>∃t rm S,e= .returned (.tuple #[.pointer (some ⟨t,0,none⟩),.int .i64 0])/\
   rX (d.kv t rm Sd D σ Fo txn limit w.heap[0]? base keep) F w' S σ k Fo 0/\ah [d.b] w w'/\(∀x∈S,x∈0::(d.blocks++Sd)\/w.heap.size<=x)/\w.heap.size<=rm):=by
 have hp:=h.plain;have hlen:d.fr.length<=1000:=by
  have h1:=hp.perm.length_eq;have h2:=hp.one.2;have h3:=hp.lim.2;rw[AT]at h1;unfold gV Fr.pg at h1;rw[IS,IS,adT]at h1;omega
 refine(Ie h.db h.wv (by rw[hp.m];show (txn:Int)<_;omega) (by rw[hp.m];show 0<=(txn:Int);omega) hlen).mono ?_;rintro e w' ⟨t,f,dm,rm,Sf,rfl,hb⟩;obtain⟨S,h1,h2,h3,h4⟩:=Ig h ht hu ia QS Mr Xr hb;exact⟨t,rm,S,rfl,h1,h2,h3,h4⟩
structure Kn where
 t:Nat
 b:Nat
 q:Nat
 r:Nat
 g:Nat
 s:St
 txn:Nat
 limit:Nat
 ro:Option Obj
 base:Nat
def Kv.kn (E:Kv):Kn:=⟨E.t,E.b,E.q,E.r,E.g,E.s,E.txn,E.limit,E.ro,E.base⟩
structure Lg (E:Kv) (i:Nat) (G:Forest) (σ':ag) (aa:Nat) (l:List (Nat×Nat)) (ch:List Nat) (d:ag):Prop where
 R:∀n,G.R n=none
 ok:G.Ok σ'
 le:1<=aa/\aa<=E.limit
 perm:(Fr.pg l++(G.aa++ch)).Perm (gV aa)
 sorted:Fr.Sorted l
 eQ:∀y∈l,y.1<=E.txn
 xR:∀n,d n≠none->n∉E.keep
 room:False\/E.base<=(l.filter fun y=>decide (y.1<E.txn)).length+(E.limit-aa)
 r9:ch.length<=Fr.pieces E.limit
 tree:∀n∈G.aa,(d n≠none/\ σ' n=d n)\/(d n=none/\n∈E.U/\ σ' n=E.cq n)
 az:∀n,d n≠none->n∈G.aa\/n∈ch
 chain:∀i (hi:i<ch.length),d ch[i]=some (jh ch l i)/\(eS l ch.length i).length<=40
 range:∀n,d n≠none->1<=n/\n<aa
 root:E.root=G.main.root
 yW:E.yW=(ch.headD 0:Nat)
 open_:E.over=false
 bO:E.bO=i
 calm:E.D.Calm
 bA:E.P.bA=if i=4 then some (E.eF aa)else none
 sec:E.D.sec.length=4*E.limit
 lim:4<=E.limit/\E.limit<=512
 t:(E.txn:Int)=E.P.m.t+1
 txn:2<=E.txn/\E.txn<=1001
 steps:E.D.steps<=3000*((E.txn:Int)-1)+(if i=1 then 0 else 2048+(i:Int))
 log:E.P.log.length<=600*(E.txn-1)+(if i=1 then 0 else 512)
 l:(E.limit:Int)=E.P.m.l
 on:if i=1 then dv E.D E.cq else dv E.D σ'
 c4:E.c4= .pointer (some ⟨E.t,0,none⟩)
def Kq (K:Kn) (i:Nat) (w:AI) (S:List Nat) (G:Forest) (σ':ag) (aa:Nat) (l:List (Nat×Nat)) (ch:List Nat):Prop:=
 ∃E d f dm nn Sf lv,E.kn=K/\dp E w S aa l d ch f dm nn Sf lv/\E.Sep/\Lg E i G σ' aa l ch d
theorem Lg.Wu{E:Kv}{i:Nat}{G:Forest}{σ':ag}{aa:Nat}{l:List (Nat×Nat)}{ch:List Nat}{d:ag}(h:Lg E i G σ' aa l ch d):(E.eF aa).ok=true:=by
 have dw:∀n,n∈G.aa\/n∈ch->n<aa:=fun n hn=>(dA.1 (h.perm.mem_iff.1 (by rcases hn with hn|hn<;>simp[hn]))).2;have hr:G.main.root<aa:=by
  have hm:=h.ok.main;unfold Tn.Is at hm;rcases hm with⟨h1,-,-⟩|⟨dd,AF,P',hP,-⟩
  ·have:=h.le;omega
  ·exact dw _ (.inl (by unfold Forest.aa;rw[hP];simp))
 have hf:ch.headD 0<aa:=by
  cases hc:ch with
  | nil=>have:=h.le;show 0<aa;omega
  | cons a t=>exact dw a (.inr (by rw[hc];simp))
 refine qE ?_;have h1:=h.le;have h2:=h.lim;have h3:=h.txn;show 0<=(E.txn:Int)/\(E.txn:Int)<=1099511627776/\2<=(E.limit:Int)/\(E.limit:Int)<=512/\1<=(aa:Int)/\(aa:Int)<=E.limit/\0<=E.root/\E.root<aa/\0<=E.yW/\E.yW<aa;rw[h.root,h.yW];omega
theorem Lg.fits{E:Kv}{i:Nat}{G:Forest}{σ':ag}{aa:Nat}{l:List (Nat×Nat)}{ch:List Nat}{d:ag}(h:Lg E i G σ' aa l ch d):∀n p,d n=some p->cm p.kind n E.txn p.body=true/\(n:Int)<E.P.m.l/\4*n+4<=E.D.sec.length:=by
 intro n p hp;have hn:=h.range n (by rw[hp];simp);have h1:=h.le;have h2:=h.lim;have h3:=h.txn;have hk:1<=p.kind/\p.kind<=4/\p.body.size<=488:=by
  rcases h.az n (by rw[hp];simp)with hg|hg
  ·rcases h.tree n hg with⟨-,hs⟩|⟨gd,-⟩
   ·obtain⟨k1,k2,k3⟩:=h.ok.fit n p (by rw[hs];exact hp)
    exact⟨k1,by omega,k3⟩
   ·rw[gd]at hp;cases hp
  ·obtain⟨j,hj,rfl⟩:=List.getElem_of_mem hg
   obtain⟨c1,c2⟩:=h.chain j hj;rw[hp]at c1;injection c1 with c1;subst c1;refine⟨show (1:Nat)<=4 by decide,show (4:Nat)<=4 by decide,?_⟩;show (ByteArray.mk (Fr.bytes (ch.getD (j+1) 0) (eS l ch.length j)).toArray).size<=488;have:(ByteArray.mk (Fr.bytes (ch.getD (j+1) 0) (eS l ch.length j)).toArray).size=(Fr.bytes (ch.getD (j+1) 0) (eS l ch.length j)).length:=rfl;rw[this,Fr.qf];omega
 refine⟨?_,?_,?_⟩
 ·unfold cm
  simp only[Bool.and_eq_true,decide_eq_true_eq];omega
 ·rw[<-h.l];omega
 ·rw[h.sec];omega
theorem Ot{E:Kv}{w:AI}{S:List Nat}{σ :ag}{k nr:Nat}{Fo:Forest}(h:rX E False w S σ k Fo nr)(nk:nr<=1000000)
  {q:Nat} (ry:∀(τ :ag) (G:Forest),G.Ok τ ->G.NS=Fo.NS->Tr.ej τ q G.main.root G.main.P G.main.L) (hk:Fo.NS.length*q+Fr.pieces E.limit<=k):
  aaf prog 13 #[.pointer (some ⟨E.t,0,none⟩)] w (fun e w'=>e= .returned (.tuple #[.bool false,.int .i64 0])/\∃G σ' aa l ch S',Kq E.kn 1 w' S' G σ' aa l ch/\G.tr=Fo.tr/\G.NS=Fo.NS/\ah S w w'/\aj w S S'):=by
 refine(WL h.ok h.wr nk h.pv (fun g hg=>(h.N1 g hg).1) ry hk).mono ?_;rintro e w' ⟨rfl,G,σ',aa,l,d,ch,f,dm,nn,Sf,lv,S',hl⟩;have hf:=h.qi;refine⟨rfl,G,σ',aa,l,ch,S',⟨_,d,f,dm,nn,Sf,lv,?_,hl.mem,⟨h.sep.t,h.sep.s,h.sep.ap⟩,?_⟩,hl.tr,hl.NS,hl.off,hl.fresh⟩
 ·rfl
 ·exact⟨hl.R,hl.ok,hl.le,hl.perm,hl.sorted,hl.stamps,hl.xR,hl.room,hl.r9,hl.tree,hl.az,hl.chain,hl.range,rfl,rfl,h.wr.open_,rfl,hf.calm,hf.bA,hf.sec,hf.lim,hf.t,hf.txn,by rw[if_pos rfl];have:=hf.steps;show E.D.steps<=3000*((E.txn:Int)-1)+0;omega,by rw[if_pos rfl];exact hf.log,hf.l,by rw[if_pos rfl];exact h.on,h.c4⟩
theorem Ji{K:Kn}{w:AI}{S:List Nat}{G:Forest}{σ':ag}{aa:Nat}{l:List (Nat×Nat)}{ch:List Nat}(h:Kq K 1 w S G σ' aa l ch):
  aaf prog 13 #[.pointer (some ⟨K.t,0,none⟩)] w (fun e w'=>e= .returned (.tuple #[.bool false,.int .i64 0])/\∃S',Kq K 2 w' S' G σ' aa l ch/\ah S w w'/\aj w S S'):=by
 obtain⟨E,d,f,dm,nn,Sf,lv,rfl,hm,hs,hp⟩:=h;have gn:=hp.fits;have aX:=hp.steps;have zU:=hp.log;have TD:=hp.txn;rw[if_pos rfl]at aX zU;have xH:∀n,d n≠none->n<512:=fun n hn=>by
  have h1:=hp.range n hn;have h2:=hp.le;have h3:=hp.lim;omega
 obtain⟨D',k1,k2,k3,k4⟩:=rI E.txn d (keysOf d) hp.calm ((rC d).imp (fun h=>by omega)) (fun n hn=>by
  have h1:=(iG xH n).1 hn;cases kx:d n with
  | none=>exact absurd kx h1
  | some p=>exact⟨p,rfl,(gn n p kx).1,(gn n p kx).2.2⟩)
 refine(WM hm hs hp.open_ hp.bO gn (by omega) (by omega) k1).mono ?_;rintro e w' ⟨rfl,T',cM,P',S',m,q1,q2,q3,q4,q5,q6,q7⟩;subst q5;refine⟨rfl,S',⟨_,d,f,dm,nn,Sf,lv,?_,q1,⟨q2.t,q2.s,q2.ap⟩,?_⟩,q3,q4⟩
 ·rfl
 ·have hlen:=uH d
  refine⟨hp.R,hp.ok,hp.le,hp.perm,hp.sorted,hp.eQ,hp.xR,hp.room,hp.r9,hp.tree,hp.az,hp.chain,hp.range,hp.root,hp.yW,hp.open_,rfl,k2,hp.bA,q7.trans hp.sec,hp.lim,hp.t,hp.txn,?_,?_,hp.l,?_,hp.c4⟩
  ·rw[if_neg (by decide)]
   show D'.steps<=3000*((E.txn:Int)-1)+(2048+2);omega
  ·rw[if_neg (by decide)]
   show (E.P.log++((keysOf d).take m).map (fun(n:Nat)=>(n:Int))).length<=600*(E.txn-1)+512;rw[AT,IS,List.length_take];omega
  ·rw[if_neg (by decide)]
   have ux:=hp.on;rw[if_pos rfl]at ux;refine ux.next (iG xH) (fun n p hn=>(hp.range n (by rw[hn];simp)).1) k4 k3 (U:=E.U) (fun n hn=> ?_);exact hp.tree n (hp.ok.full n hn)
theorem Jj{K:Kn}{w:AI}{S:List Nat}{G:Forest}{σ':ag}{aa:Nat}{l:List (Nat×Nat)}{ch:List Nat}(h:Kq K 2 w S G σ' aa l ch):
  aaf prog 13 #[.pointer (some ⟨K.t,0,none⟩)] w (fun e w'=>e= .returned (.tuple #[.bool false,.int .i64 0])/\∃S',Kq K 3 w' S' G σ' aa l ch/\ah S w w'/\aj w S S'):=by
 obtain⟨E,d,f,dm,nn,Sf,lv,rfl,hm,hs,hp⟩:=h;have aX:=hp.steps;have zU:=hp.log;have TD:=hp.txn;have ux:=hp.on;rw[if_neg (by decide)]at aX zU ux;have fJ:=DevS.iO E.D;refine(WN hm hs hp.open_ hp.bO (by omega) hp.calm.sync).mono ?_;rintro e w' ⟨rfl,cM,S',q1,q2,q3,q4⟩;refine⟨rfl,S',⟨_,d,f,dm,nn,Sf,lv,?_,q1,⟨q2.t,q2.s,q2.ap⟩,?_⟩,q3,q4⟩
 ·rfl
 ·refine⟨hp.R,hp.ok,hp.le,hp.perm,hp.sorted,hp.eQ,hp.xR,hp.room,hp.r9,hp.tree,hp.az,hp.chain,hp.range,hp.root,hp.yW,hp.open_,rfl,⟨hp.calm.al.on,hp.calm.al.cy⟩,hp.bA,?_,hp.lim,hp.t,hp.txn,?_,?_,hp.l,?_,hp.c4⟩
  ·show (E.D.al.synced).sec.length=4*E.limit
   rw[DevS.oA,DevS.ju];exact hp.sec
  ·rw[if_neg (by decide)]
   show E.D.al.steps<=3000*((E.txn:Int)-1)+(2048+3);omega
  ·rw[if_neg (by decide)]
   exact zU
  ·rw[if_neg (by decide)]
   exact ux.sync
theorem Jk{K:Kn}{w:AI}{S:List Nat}{G:Forest}{σ':ag}{aa:Nat}{l:List (Nat×Nat)}{ch:List Nat}(h:Kq K 3 w S G σ' aa l ch):
  aaf prog 13 #[.pointer (some ⟨K.t,0,none⟩)] w (fun e w'=>e= .returned (.tuple #[.bool false,.int .i64 0])/\∃S',Kq K 4 w' S' G σ' aa l ch/\ah S w w'/\aj w S S'):=by
 obtain⟨E,d,f,dm,nn,Sf,lv,rfl,hm,hs,hp⟩:=h;have aX:=hp.steps;have zU:=hp.log;have TD:=hp.txn;have ux:=hp.on;have wo:=hp.bA;rw[if_neg (by decide)]at aX zU ux wo;have fA:=hp.Wu;have cZ:=aR.size fA;have kA:=hp.lim;have BI:=hp.sec;have ht:=hp.t;obtain⟨i,hi⟩:∃i:Nat,i=E.txn%2:=⟨_,rfl⟩;have hii:(E.txn:Int)%2=(i:Int):=by rw[hi];omega
 have Xo:i<2:=by omega
 have vH:i<E.D.sec.length:=by omega
 obtain⟨c1,c2⟩:=hp.calm.write vH cZ;obtain⟨k1,k2,-⟩:=DevS.gO vH cZ;refine(WO (D':=(E.D.write (i:Int) (E.eF aa).bytes).1) hm hs hp.open_ hp.bO (by omega) wo fA hp.l ht (by omega) (by rw[hii];exact Prod.ext rfl c1)).mono ?_;rintro e w' ⟨rfl,T',cM,S',q1,q2,q3,q4⟩;refine⟨rfl,S',⟨_,d,f,dm,nn,Sf,lv,?_,q1,⟨q2.t,q2.s,q2.ap⟩,?_⟩,q3,q4⟩
 ·rfl
 ·refine⟨hp.R,hp.ok,hp.le,hp.perm,hp.sorted,hp.eQ,hp.xR,hp.room,hp.r9,hp.tree,hp.az,hp.chain,hp.range,hp.root,hp.yW,hp.open_,rfl,c2,?_,?_,hp.lim,hp.t,hp.txn,?_,?_,hp.l,?_,hp.c4⟩
  ·rw[if_pos rfl]
   rfl
  ·show ((E.D.write (i:Int) (E.eF aa).bytes).1).sec.length=4*E.limit
   rw[k1.sec];exact hp.sec
  ·rw[if_neg (by decide)]
   show ((E.D.write (i:Int) (E.eF aa).bytes).1).steps<=3000*((E.txn:Int)-1)+(2048+4);omega
  ·rw[if_neg (by decide)]
   exact zU
  ·rw[if_neg (by decide)]
   exact ux.OD Xo vH cZ
theorem Nk{K:Kn}{w:AI}{S:List Nat}{G:Forest}{σ':ag}{aa:Nat}{l:List (Nat×Nat)}{ch:List Nat}(h:Kq K 4 w S G σ' aa l ch):
  aaf prog 13 #[.pointer (some ⟨K.t,0,none⟩)] w (fun e w'=>e= .returned (.tuple #[.bool true,.int .i64 0])/\∃d' cM D',fD w' d' cM D' σ' G K.txn aa K.limit/\d'.b=K.b/\d'.q=K.q/\d'.r=K.r/\d'.g=K.g/\d'.s=K.s/\d'.fr=l/\d'.gW=ch/\w'.heap[0]? =K.ro/\K.base<=(l.filter fun y=>decide (y.1<K.txn)).length+(K.limit-aa)/\ah S w w'/\(∀x∈d'.blocks++cM,x∈S\/w.heap.size<=x)):=by
 obtain⟨E,d,f,dm,nn,Sf,lv,rfl,hm,hs,hp⟩:=h;have aX:=hp.steps;have zU:=hp.log;have TD:=hp.txn;have ux:=hp.on;have wo:=hp.bA;rw[if_neg (by decide)]at aX zU ux;rw[if_pos rfl]at wo;have fJ:=DevS.iO E.D;refine(WQ hm hs hp.open_ hp.bO (by omega) wo hp.calm.sync).mono ?_;rintro e w' ⟨rfl,T',cM,hd⟩;have VD:∀x∈aB E.t f dm Sf lv (.slice none 0 0),x<w.heap.size:=by
  intro x hx;simp only[aB,aaT,OF,By,abG]at hx;rcases hx with rfl|rfl|hx|hx|hx
  ·exact hm.cells.lt
  ·exact hm.map.lt
  ·exact(abq hm.loose x hx).2
  ·cases hx
  ·exact hm.free.old _ hx
 have BM:∀x,x∈E.still->x∈S:=fun x hx=>by rw[hm.blocks];exact By.2 (.inr hx)
 have aax:∀x,x∈aB E.t f dm Sf lv (.slice none 0 0)->x∈S:=fun x hx=>by rw[hm.blocks];exact By.2 (.inl hx)
 have hnT:∀x∈aB E.t f dm Sf lv (.slice none 0 0),x∉T'/\x∉cM:=fun x hx=>by
  have h1:=VD x hx;have h2:=hm.apart x hx;refine⟨fun V9=> ?_,fun V9=> ?_⟩
  ·rcases hd.fT x V9 with h3|h3
   ·exact h2 (by simp[Kv.still,h3])
   ·omega
  ·rcases hd.fS x V9 with h3|h3
   ·exact h2 (by simp[Kv.still,h3])
   ·omega
 obtain⟨cs,ht1,ht2⟩:=hd.txn;refine⟨rfl,⟨E.b,E.q,E.r,f,E.g,T',Sf,⟨E.eF aa,E.P.m,true,none,E.P.log⟩,E.s,l,lv,ch,E.c4⟩,cM,E.D.al.synced,⟨hd.db,hd.dev,hd.row.1,?_,?_,?_,.inr ⟨E.t,cs,hp.c4,ht1,ht2⟩⟩,rfl,rfl,rfl,rfl,rfl,rfl,rfl,hd.row.2,hp.room.resolve_left id,hd.off,?_⟩
 ·refine⟨⟨hp.calm.al.on,hp.calm.al.cy⟩,?_,rfl,?_,hp.lim,by show 1<=E.txn;omega,?_,?_,hp.ok,hp.R,ux.sync,hp.le,hp.perm,hp.sorted,hp.eQ,hp.r9⟩
  ·show E.eF aa=⟨E.txn,G.main.root,(ch.headD 0:Nat),aa,E.limit⟩
   unfold Kv.eF;rw[hp.root,hp.yW]
  ·show (E.D.al.synced).sec.length=4*E.limit
   rw[DevS.oA,DevS.ju];exact hp.sec
  ·show E.D.al.steps<=3000*(E.txn:Int)
   omega
  ·show E.P.log.length<=600*E.txn
   omega
 ·exact⟨hd.sep.s.1,hd.sep.s.2.1,hd.sep.ap,hd.sep.s.2.2,hd.sep.t.2.2⟩
 ·intro g hg
  have sk:g∈aB E.t f dm Sf lv (.slice none 0 0):=by
   have:lv.ownBlock=some g:=hg;simp[aB,this]
  refine⟨(hnT g sk).1,(hnT g sk).2,fun e=>hm.apart g sk ?_⟩;rw[e];simp[Kv.still]
 ·intro x hx
  simp only[Di.blocks,OF,By,abG]at hx;rcases hx with(rfl|rfl|hx|hx|hx)|hx
  ·exact .inl (BM _ (by simp[Kv.still]))
  ·exact .inl (BM _ (by simp[Kv.still]))
  ·exact(hd.fT x hx).imp (fun h1=>BM _ (by simp[Kv.still,h1])) id
  ·exact .inl (aax _ (by simp[aB,hx]))
  ·exact .inl (aax _ (by simp[aB,hx]))
  ·exact(hd.fS x hx).imp (fun h1=>BM _ (by simp[Kv.still,h1])) id
def Forest.zero:Forest:=⟨Tn.zero,fun _=>none,fun _=>Tn.zero,[]⟩
theorem Forest.R6:Forest.zero.Ok (fun _=>none) where
 main:= .inl ⟨rfl,rfl,rfl⟩
 each:=fun n=> .inl ⟨rfl,rfl,rfl⟩
 out:=fun n _=>rfl
 nodup:=aff
 full:=fun n h=>absurd rfl h
 names:=fun e he=>(by cases he)
 law:=fun n r h=>(by cases h)
 wC:=fun n _=> .inr ⟨fun e he=>(by cases he),rfl⟩
 nd:=aff
 valid:=fun n h=>(by cases h)
def pr (b q r f g:Nat) (Sf:List Nat) (limit:Nat):Di:=⟨b,q,r,f,g,[q],Sf,qU limit,St.empty,[],.slice none 0 0,[],.pointer none⟩
theorem IF{limit:Nat}(h:4<=limit/\limit<=512):zY (b7 (4*limit) limit) (qU limit) [] [] (fun _=>none) Forest.zero 1 1 limit:=
 ⟨⟨rfl,rfl⟩,rfl,rfl,(by simp[b7]),h,AS _,(by show (3:Int)<=3000*((1:Nat):Int);omega),(by show ([]:List Int).length<=_;simp),Forest.R6,fun _=>rfl,fun n p h=>(by cases h),⟨AS _,(by omega)⟩,(by decide),aey,fun y hy=>(by cases hy),abi _⟩
theorem NN{w:AI}{t:Nat}{cs:Array No}{v:Bool}(h:Bk w t 103 cs)(kT:cs[13]? =some (.bool v)):aaf prog 20 #[.pointer (some ⟨t,0,none⟩)] w (fun e w'=>e= .returned (.bool v)/\w=w'):=by
 have vS:=(h.cell 13).trans kT;have lt:=h.lt;clear h;go_enter func20,ntmps20
 go_wp2_with fail
 go_ret
 exact⟨rfl,rfl⟩
theorem rX.off{E:Kv}{F:Prop}{w w':AI}{S U:List Nat}{σ :ag}{k nr:Nat}{Fo:Forest}(h:rX E F w S σ k Fo nr)(ho:ah U w w')(hU:∀b∈E.rm::S,b∉U)(hc:∀g,E.c3.ownBlock=some g->g∉U):rX E F w' S σ k Fo nr:=by
 obtain⟨x,f,dm,nn,Sf,lv,fv,hm,h1,h2⟩:=h.wr.at_;obtain⟨n0,h3,h4⟩:=h.wr.roots;exact⟨⟨⟨x,f,dm,nn,Sf,lv,fv,hm.off ho (fun b hb=>hU b (List.mem_cons_of_mem _ hb)),h1,h2⟩,⟨n0,h3,h4.off ho (hU _ (by simp))⟩,h.wr.rm,h.wr.ok,h.wr.root,h.wr.open_,h.wr.first⟩,h.ok,h.sep,h.qi,h.on,ho.own h.pv hc,h.N1,h.c4⟩
theorem fD.off{w w':AI}{d:Di}{Sd U:List Nat}{D:DevS}{σ :ag}{Fo:Forest}{txn aa limit:Nat}(h:fD w d Sd D σ Fo txn aa limit)(ho:ah U w w')(hU:∀x∈0::(d.blocks++Sd),x∉U)(ht:∀t,d.wv= .pointer (some ⟨t,0,none⟩)->t∉U):fD w' d Sd D σ Fo txn aa limit:=by
 refine⟨h.db.off ho (fun x hx=>hU x (by simp[hx])),h.dev.off ho (fun x hx=>hU x (by simp[hx])),h.row.off ho (hU _ (by simp)),h.plain,h.ap,h.pv,?_⟩;rcases h.wv with h1|⟨t,cs,h1,h2,h3⟩
 ·exact .inl h1
 ·exact .inr ⟨t,cs,h1,ho.bk h2 (ht t h1),h3⟩
theorem fD.below{w w':AI}{d:Di}{Sd:List Nat}{D:DevS}{σ :ag}{Fo:Forest}{txn aa limit:Nat}(h:fD w d Sd D σ Fo txn aa limit)(hb:IT w.heap.size w w'):fD w' d Sd D σ Fo txn aa limit:=h.off (ah.af hb []) (by simp) (by simp)
theorem rX.below{E:Kv}{w w':AI}{S:List Nat}{σ :ag}{k nr:Nat}{Fo:Forest}(h:rX E False w S σ k Fo nr)(hb:IT w.heap.size w w'):rX E False w' S σ k Fo nr:=h.off (ah.af hb []) (by simp) (by simp)
theorem rX.over{E:Kv}{w:AI}{S:List Nat}{σ :ag}{k nr:Nat}{Fo:Forest}(h:rX E False w S σ k Fo nr):aaf prog 20 #[.pointer (some ⟨E.t,0,none⟩)] w (fun e w'=>e= .returned (.bool false)/\w=w'):=by
 obtain⟨x,f,dm,lv,fv,hc⟩:=h.wr.cells;exact NN hc (by rw[show (aO E x f dm lv fv)[13]? =some (.bool E.over) from rfl,h.wr.open_])
structure Lj (E:Kv) (S:List Nat) (σ :ag) (k c:Nat) (Fo:Forest) (nr:Nat) (name key val:ByteArray) (w w':AI) (y:En) (t:Tn) (σ':ag) (S':List Nat) (k':Nat):Prop where
 kk:y.cell.key=key
 vv:y.val=val.data.toList
 pp:y.aa.length=Tr.pieces val.size
 L:t.L=Tr.dB key y (Fo.tr name).L
 mv:Tr.aE 2 σ (Fo.tr name).P σ' t.P
 st:rX E False w' S' σ' k' (Fo.put name t) (nr+1)
 sure:k<=k'+(c+Tr.pieces val.size)
 off:ah (E.rm::S) w w'
 fresh:aj w S S'
theorem RW{E:Kv}{w:AI}{S:List Nat}{σ :ag}{k nr:Nat}{Fo:Forest}(h:rX E False w S σ k Fo nr)(nk:nr<=100000)(name key val:ByteArray)(hn:dc name)(dy:1<=key.size)(bR:key.size<=120)(hv:val.size<=4000)
  {c:Nat} (Q8:Tr.ej σ c (Fo.tr name).root (Fo.tr name).P (Fo.tr name).L) (hk:c+Tr.pieces val.size<=k):
  aaf prog 12 #[.pointer (some ⟨E.t,0,none⟩),.string name,.string key,.string val] w (fun e w'=>e= .returned (.int .i64 0)/\∃y t σ' S' k',Lj E S σ k c Fo nr name key val w w' y t σ' S' k'):=by
 refine(OC h.ok h.wr nk name key val hn dy bR hv Q8 (.inr hk)).mono ?_;rintro e w' (⟨rfl,y,t,σ',S',k',h1,h2,oZ,h3,om,h4,h5,h6,h7⟩|⟨hF,-⟩)
 ·have Vg:∀g,E.c3.ownBlock=some g->g<w.heap.size:=fun g hg=>(abq h.pv g hg).2
  refine⟨rfl,y,t,σ',S',k',h1,h2,oZ,h3,om,⟨h4,h.ok,h.sep,h.qi,h.on,h6.own h.pv (fun g hg hm=> ?_),fun g hg=>⟨fun hm=> ?_,(h.N1 g hg).2⟩,h.c4⟩,h5,h6,h7⟩
  ·rcases OF.1 hm with hm|hm
   ·exact(h.N1 g hg).2 hm
   ·exact(h.N1 g hg).1 hm
  ·rcases h7 g hm with hm|hm
   ·exact(h.N1 g hg).1 hm
   ·have:=Vg g hg;omega
 ·exact hF.elim
theorem L4{L:List En}{key val:ByteArray}{y:En}{v:No}(hr:Tr.bj L)(hk:y.cell.key=key)(hv:y.val=val.data.toList)(h:qP (Tr.dB key y L) key v):v= .tuple #[.string val,.bool true,.int .i64 0]:=by
 rcases h with⟨e,he,ZT,rfl⟩|⟨gd,-⟩
 ·rcases(Tr.ta hr hk e).1 he with rfl|⟨-,bM⟩
  ·rw[hv]
  ·exact absurd ZT bM
 ·exact absurd hk (gd y ((Tr.ta hr hk y).2 (.inl rfl)))
theorem Lj.get{E:Kv}{S:List Nat}{k c:Nat}{Fo:Forest}{nr:Nat}{σ :ag}{name key val:ByteArray}{w w':AI}{y:En}{t:Tn}{σ':ag}{S':List Nat}{k':Nat}(h:Lj E S σ k c Fo nr name key val w w' y t σ' S' k')(hn:dc name)(hr:Tr.bj (Fo.tr name).L){W:AI}(hs:rX E False W S' σ' k' (Fo.put name t) (nr+1)):
  aaf prog 17 #[.pointer (some ⟨E.t,0,none⟩),.string name,.string key] W (fun e w'=>e= .returned (.tuple #[.string val,.bool true,.int .i64 0])/\IT W.heap.size W w'):=by
 refine(OA hs.ok hs.wr name key hn).mono ?_;rintro e w2 ⟨hb,v,rfl,hg⟩;have e1:((Fo.put name t).tr name).L=Tr.dB key y (Fo.tr name).L:=by
  rw[<-h.L];show (if name=name then t else Fo.tr name).L=t.L;rw[if_pos rfl]
 rw[e1]at hg;rw[L4 hr h.kk h.vv hg];exact⟨rfl,hb⟩
theorem nW{α :Type}(p: α ->Bool):∀(l:List α),(l.filter p).length+(l.filter fun x=> !p x).length=l.length
 | []=>rfl
 | a::l=>by
  have:=nW p l;cases h:p a
  ·rw[adE (by simp[h]),afW (by simp[h]),abv,abv];omega
  ·rw[afW h,adE (by simp[h]),abv,abv];omega
theorem uT(e:Nat):(gV e).length=e-1:=by unfold gV;rw[IS,adT]
theorem Tx.Ok.abD{x:Tx}{limit:Nat}{D:ag}{U pc:List Nat}(h:x.Ok limit D U pc [])(u:Nat):∃dk:List Nat,dk.Nodup/\(∀n∈dk,x.book D U n≠none/\n∉U)/\
  x.rest limit+x.loose.length+dk.length+U.length+pc.length+1=limit/\x.sure limit u+(x.fr.filter fun y=>decide (u<y.1)).length=x.rest limit+x.loose.length:=by
 obtain⟨dk,h1,h2⟩:=h.perm;have hn:=h.nodup h2;have hl:=h2.length_eq;rw[uT]at hl;simp only[AT,Fr.pg,IS,List.length_nil]at hl;have h3:=h.one;have h4:=h.le;refine⟨dk,(aag.1 (aag.1 hn).2.1).1,fun n rj=> ?_,?_,?_⟩
 ·have hd:=(h1 n).1 rj
  refine⟨?_,h.apart hd⟩;unfold Tx.book;cases hx:x.az n with
  | none=>exact absurd hx hd
  | some p=>simp
 ·unfold Tx.rest
  omega
 ·unfold Tx.sure Tx.rest
  rw[Fr.CO x.fr h.sorted];have h5:=nW (fun y:Nat×Nat=>decide (y.1<u+1)) x.fr;have h6:(x.fr.filter fun y=> !decide (y.1<u+1))=x.fr.filter fun y=>decide (u<y.1):=by
   congr 1
   funext y
   by_cases hy:y.1<u+1
   ·rw[decide_eq_true hy,decide_eq_false (by omega)];rfl
   ·rw[decide_eq_false hy,decide_eq_true (by omega)];rfl
  rw[h6]at h5;omega
def Kv.kK (E:Kv) (b:Nat):Kv:={ E with base:=b }
theorem bf.kK{E:Kv}{w:AI}{S hd:List Nat}{x:Tx}{f dm nn:Nat}{Sf:List Nat}{lv fv:No}(h:bf E w S hd x f dm nn Sf lv fv)(b:Nat):bf (E.kK b) w S hd x f dm nn Sf lv fv:=
 ⟨h.cells,h.free,h.map,h.nn,h.loose,h.aK,h.db,h.rd,h.pg,h.dev,h.row,h.ok,h.blocks,h.nodup,h.apart⟩
theorem rX.Fm{E:Kv}{w:AI}{S:List Nat}{σ :ag}{k nr:Nat}{Fo:Forest}(h:rX E False w S σ k Fo nr){Dk b k':Nat}(hd:∀dk:List Nat,dk.Nodup->(∀n∈dk,σ n≠none/\n∉E.U)->dk.length<=Dk)(hb:b<=E.base)(h1:k'+Dk+E.U.length+E.pc.length+E.held+1<=E.limit)(h2:b+k'+Dk+E.U.length+E.pc.length+1<=E.limit):
  rX (E.kK b) False w S σ k' Fo nr:=by
 obtain⟨x,f,dm,nn,Sf,lv,fv,hm,hσ,hk⟩:=h.wr.at_;obtain⟨dk,d1,d2,d3,d4⟩:=hm.ok.abD E.upto.toNat;have d5:=hd dk d1 (fun n hn=>by rw[hσ];exact d2 n hn);have d6:=hk.held;have d7:=hk.base.resolve_left id;have aa5:Room (E.kK b) False k' x:=⟨by show k'<=x.sure E.limit E.upto.toNat;omega,hk.eQ,.inr (by show b<=x.rest E.limit/\b+k'<=x.rest E.limit+x.loose.length;omega),hk.nF,hk.j7,hk.nG,hk.held⟩;exact⟨⟨⟨x,f,dm,nn,Sf,lv,fv,hm.kK b,hσ,aa5⟩,h.wr.roots,h.wr.rm,h.wr.ok,h.wr.root,h.wr.open_,h.wr.first⟩,⟨h.ok.txn,h.ok.J1,h.ok.on,h.ok.steps,h.ok.lim,h.ok.zr,h.ok.upto⟩,⟨h.sep.t,h.sep.s,h.sep.ap⟩,⟨h.qi.calm,h.qi.bA,h.qi.sec,h.qi.lim,h.qi.t,h.qi.txn,h.qi.steps,h.qi.log,h.qi.l⟩,h.on,h.pv,h.N1,h.c4⟩
structure Sp (E:Kv) (σ :ag) (Fo:Forest) (P V n a d v:Nat):Prop where
 limit:E.limit=200
 two:Fo.Ga
 ns:n<=P
 pM:PG σ E.U Fo (a+d) v
 size:Fo.size+d<=n+a
 mu:Fo.mu<=V+v
 u:E.U.length<=1+2*n+V
 pc:E.pc.length<=5
 sure:180+n+E.U.length+E.pc.length+E.held<=199+4*P+V
 base:E.base+E.U.length+E.pc.length+(n+3*a+d+v+13)=199
def jK (P V:Nat):Prop:=P<=30/\P+V<=60
theorem Sp.az{E:Kv}{σ :ag}{Fo:Forest}{P V n a d v:Nat}(h:Sp E σ Fo P V n a d v)(ho:Fo.Ok σ):∀dk:List Nat,dk.Nodup->(∀n∈dk,σ n≠none/\n∉E.U)->dk.length<=min (2*(a+d)+Fo.size+v) (2*Fo.size+v):=fun dk h1 h2=>by
 obtain⟨h3,h4⟩:=h.pM.az ho h.two h1 h2;omega
theorem Hi{Fo:Forest}{σ :ag}(ho:Fo.Ok σ){name:ByteArray}(hn:name=eH\/name=eL)(hs:Fo.size<=31):Tr.ej σ 12 (Fo.tr name).root (Fo.tr name).P (Fo.tr name).L:=by
 refine(ho.each name).UI ?_;unfold Forest.size at hs;rcases hn with rfl|rfl<;>omega
theorem Forest.size_put{Fo:Forest}{name:ByteArray}(hn:name=eH\/name=eL)(t:Tn):(Fo.put name t).size+(Fo.tr name).L.length=Fo.size+t.L.length/\(Fo.put name t).mu+((Fo.tr name).L.flatMap (·.aa)).length=Fo.mu+(t.L.flatMap (·.aa)).length:=by
 unfold Forest.size Forest.mu;simp only[Forest.uY];rcases hn with rfl|rfl
 ·rw[if_pos rfl,if_neg (fun e=>ep e.symm)];omega
 ·rw[if_pos rfl,if_neg ep];omega
theorem RR{E:Kv}{w:AI}{S:List Nat}{σ :ag}{k nr:Nat}{Fo:Forest}{P V n a d v:Nat}(h:rX E False w S σ k Fo nr)(hr:Sp E σ Fo P V n a d v)(nk:nr<=100000)(name key val:ByteArray)(hn:name=eH\/name=eL)(dy:1<=key.size)(bR:key.size<=120)(hv:val.size<=1200)(hf:jK (P+a+1) (V+v+Tr.pieces val.size)):
  aaf prog 12 #[.pointer (some ⟨E.t,0,none⟩),.string name,.string key,.string val] w (fun e w'=>e= .returned (.int .i64 0)/\∃y t σ' S' k' b,rX (E.kK b) False w' S' σ' k' (Fo.put name t) (nr+1)/\Sp (E.kK b) σ' (Fo.put name t) P V n (a+1) d (v+Tr.pieces val.size)/\
   y.cell.key=key/\y.val=val.data.toList/\t.L=Tr.dB key y (Fo.tr name).L/\ah (E.rm::S) w w'/\aj w S S'):=by
 obtain⟨f1,f2⟩:=hf;have ho:=h.wr.ok;have g1:=hr.size;have g2:=hr.ns;have g3:=hr.u;have g4:=hr.pc;have g5:=hr.sure;have g6:=hr.base;have lT:dc name:=by rcases hn with rfl|rfl;exact As;exact Au
 obtain⟨b,hb⟩:∃b,b=E.base-(3+Tr.pieces val.size):=⟨_,rfl⟩;have aeG:3+Tr.pieces val.size<=E.base:=by omega
 have h2:=h.Fm (b:=b) (k':=12+Tr.pieces val.size) (hr.az ho) (by omega) (by rw[hr.limit];omega) (by rw[hr.limit];omega);refine(RW h2 nk name key val lT dy bR (by omega) (Hi ho hn (by omega)) (AS _)).mono ?_;rintro e w' ⟨rfl,y,t,σ',S',k',hp⟩;obtain⟨s1,s2⟩:=Forest.size_put (Fo:=Fo) hn t;have s3:=Tr.Cv key y (Fo.tr name).L;have s4:=Tr.JG key y (Fo.tr name).L;rw[<-hp.L]at s3 s4;have s5:=hp.pp;refine⟨rfl,y,t,σ',S',k',b,hp.st,⟨hr.limit,hr.two.put hn t,g2,?_,by omega,by have:=hr.mu;omega,g3,g4,g5,?_⟩,hp.kk,hp.vv,hp.L,hp.off,hp.fresh⟩
 ·have hc:=hr.pM.put ho hp.mv (Y:=y.aa) (fun e he=>by
   rw[hp.L]at he;rcases Tr.NZ key y _ e he with rfl|he
   ·exact .inl fun n hn=>hn
   ·exact .inr he)
  rw[hp.pp]at hc;rw[show a+1+d=a+d+1 by omega];exact hc
 ·show b+E.U.length+E.pc.length+(n+3*(a+1)+d+(v+Tr.pieces val.size)+13)=199
  omega
def Ux (E:Kv) (S:List Nat) (σ :ag) (Fo:Forest) (nr P V n a d v:Nat) (name key:ByteArray) (w:AI) (ok:Bool) (w':AI):Prop:=
 (∃t σ' S' k' b,ok=true/\rX (E.kK b) False w' S' σ' k' (Fo.put name t) (nr+1)/\Sp (E.kK b) σ' (Fo.put name t) P V n a (d+1) v/\t.L=Tr.eM key (Fo.tr name).L/\ah (E.rm::S) w w'/\aj w S S')\/
 (ok=false/\(∀x∈(Fo.tr name).L,x.cell.key≠key)/\IT w.heap.size w w')
theorem RQ{E:Kv}{w:AI}{S:List Nat}{σ :ag}{k nr:Nat}{Fo:Forest}{P V n a d v:Nat}(h:rX E False w S σ k Fo nr)(hr:Sp E σ Fo P V n a d v)(nk:nr<=100000)(name key:ByteArray)(hn:name=eH\/name=eL)(hf:jK (P+a) (V+v)):
  aaf prog 81 #[.pointer (some ⟨E.t,0,none⟩),.string name,.string key] w (fun e w'=>∃ok,e= .returned (.tuple #[.bool ok,.int .i64 0])/\Hid (Ux E S σ Fo nr P V n a d v name key w ok w')):=by
 obtain⟨f1,f2⟩:=hf;have ho:=h.wr.ok;have g1:=hr.size;have g2:=hr.ns;have g3:=hr.u;have g4:=hr.pc;have g5:=hr.sure;have g6:=hr.base;have lT:dc name:=by rcases hn with rfl|rfl;exact As;exact Au
 obtain⟨b,hb⟩:∃b,b=E.base-1:=⟨_,rfl⟩;have aeG:1<=E.base:=by omega
 have h2:=h.Fm (b:=b) (k':=12) (hr.az ho) (by omega) (by rw[hr.limit];omega) (by rw[hr.limit];omega);refine(Oz h2.ok h2.wr nk name key lT (Hi ho hn (by omega)) (.inr (AS _))).mono ?_;rintro e w' (⟨rfl,hx,t,σ',S',k',hL,jJ,hw,kz,bB,bU⟩|⟨rfl,gd,yX⟩|⟨hF,-⟩)
 ·obtain⟨s1,s2⟩:=Forest.size_put (Fo:=Fo) hn t
  have s3:=Tr.Ip (ho.each name).rising hx;have s4:=Tr.Iq key (Fo.tr name).L;rw[<-hL]at s3 s4;have Vg:∀g,E.c3.ownBlock=some g->g<w.heap.size:=fun g hg=>(abq h.pv g hg).2;refine⟨true,rfl,sh (.inl ⟨t,σ',S',k',b,rfl,⟨hw,h2.ok,h2.sep,h2.qi,h2.on,bB.own h2.pv (fun g hg hm=> ?_),fun g hg=>⟨fun hm=> ?_,(h2.N1 g hg).2⟩,h2.c4⟩,⟨hr.limit,hr.two.put hn t,g2,?_,by omega,by have:=hr.mu;omega,g3,g4,g5,?_⟩,hL,bB,bU⟩)⟩
  ·rcases OF.1 hm with hm|hm
   ·exact(h2.N1 g hg).2 hm
   ·exact(h2.N1 g hg).1 hm
  ·rcases bU g hm with hm|hm
   ·exact(h2.N1 g hg).1 hm
   ·have:=Vg g hg;omega
  ·have hc:=hr.pM.put ho jJ (Y:=[]) (fun e he=>by
    rw[hL]at he;exact .inr ((Tr.oO (ho.each name).rising e).1 he).1)
   rw[show a+(d+1)=a+d+1 by omega];exact hc
  ·show b+E.U.length+E.pc.length+(n+3*a+(d+1)+v+13)=199
   omega
 ·exact⟨false,rfl,sh (.inr ⟨rfl,gd,yX⟩)⟩
 ·exact hF.elim
structure R8 (d:Di) (D:DevS) (σ :ag) (Fo:Forest) (txn aa P V:Nat):Prop where
 two:Fo.Ga
 size:Fo.size<=P
 mu:Fo.mu<=V
 free:180+Fo.size<=(d.fr.filter fun y=>decide (y.1<txn)).length+(200-aa)+4*P+V
theorem zq(t:Int):St.empty.di t=t:=by simp[St.di,St.liveK,St.live,St.empty,vo,oldestOf]
theorem JL{w:AI}{d:Di}{Sd:List Nat}{D:DevS}{σ :ag}{Fo:Forest}{txn aa P V:Nat}(h:fD w d Sd D σ Fo txn aa 200)(hs:d.s=St.empty)(ht:txn<=1000)(hF:R8 d D σ Fo txn aa P V)(hf:jK P V):
  aaf prog 11 #[.pointer (some ⟨d.b,0,none⟩)] w (fun e w'=>∃t E S,e= .returned (.tuple #[.pointer (some ⟨t,0,none⟩),.int .i64 0])/\E.t=t/\E.b=d.b/\E.g=d.g/\E.txn=txn+1/\E.s=St.empty/\E.ro=w.heap[0]? /\
   rX E False w' S σ 0 Fo 0/\Sp E σ Fo P V Fo.size 0 0 0/\ah [d.b] w w'/\(∀x∈S,x∈0::(d.blocks++Sd)\/w.heap.size<=x)/\w.heap.size<=E.rm):=by
 obtain⟨f1,f2⟩:=hf;have hp:=h.plain;have ho:=hp.ok;have g1:=hF.size;have g2:=hF.mu;have g3:=hF.two.aa ho;have g4:=hF.free;have g5:d.gW.length<=5:=abw hp.r9 (by decide);have h1:=hp.t1;have hlen:=hp.perm.length_eq;rw[uT]at hlen;simp only[AT,Fr.pg,IS]at hlen;have eW:=hp.one;have hold:min ((txn:Int)-1) (d.s.di (txn:Int))=((txn-1:Nat):Int):=by
  rw[hs,zq];omega
 have Kx:=nW (fun y:Nat×Nat=>decide (y.1<txn)) d.fr;have Gv:(d.fr.filter fun y=> !decide (y.1<txn))=d.fr.filter fun y=>decide (txn-1<y.1):=by
  congr 1
  funext y
  by_cases hy:y.1<txn
  ·rw[decide_eq_true hy,decide_eq_false (by omega)];rfl
  ·rw[decide_eq_false hy,decide_eq_true (by omega)];rfl
 rw[Gv]at Kx;refine(D5 (F:=False) (base:=199-Fo.aa.length-d.gW.length-(Fo.size+13)) (k:=0) (keep:=[]) h ht (by rw[hold];omega) (abi _) (.inr (by omega)) (fun y hy h9=>by simp) (fun m hm=>by cases hm)).mono ?_;rintro e w' ⟨t,rm,S,rfl,k1,k2,k3,k4⟩;refine⟨t,_,S,rfl,rfl,rfl,rfl,rfl,hs,rfl,k1,⟨rfl,hF.two,g1,PG.begin ho,AS _,g2,?_,g5,?_,?_⟩,k2,k3,k4⟩
 ·show Fo.aa.length<=1+2*Fo.size+V
  omega
 ·show 180+Fo.size+Fo.aa.length+d.gW.length+(d.fr.filter fun y=>decide ((min ((txn:Int)-1) (d.s.di (txn:Int))).toNat<y.1)).length<=199+4*P+V
  rw[hold,Int.toNat_natCast];omega
 ·show 199-Fo.aa.length-d.gW.length-(Fo.size+13)+Fo.aa.length+d.gW.length+(Fo.size+3*0+0+0+13)=199
  omega
theorem kD:∀ {l:List Nat} {x:Nat},x∈l->x<=l.sum
 | a::l,x,h=>by
  rw[List.sum_cons];rcases OF.1 h with rfl|h
  ·omega
  ·have:=kD h;omega
structure Kh (w0 W:AI) (X:List Nat) (rv:No) (R:List Tl3):Prop where
 own:fY W w0.heap.size rv R
 off:ah [0] w0 W
 new:∀x∈X,x=0\/w0.heap.size<=x
 ap:∀g,rv.ownBlock=some g->g∉X
theorem Kh.go{w0 W W':AI}{X U X':List Nat}{rv:No}{R:List Tl3}(h:Kh w0 W X rv R)(ho:ah U W W')(hU:∀x∈U,x∈X\/(w0.heap.size<=x/\∀g,rv.ownBlock=some g->g≠x))(hf:∀x∈X',x∈X\/W.heap.size<=x):Kh w0 W' X' rv R:=by
 refine⟨ho.own h.own (fun g hg hm=>(hU g hm).elim (h.ap g hg) (fun h9=>h9.2 g hg rfl)),h.off.then ho (fun x hx=> ?_),fun x hx=> ?_,fun g hg hm=> ?_⟩
 ·rcases hU x hx with h1|h1
  ·exact(h.new x h1).imp (fun e=>by simp[e]) id
  ·exact .inr h1.1
 ·rcases hf x hx with h1|h1
  ·exact h.new x h1
  ·exact .inr (abw h.off.size h1)
 ·rcases hf g hm with h1|h1
  ·exact h.ap g hg h1
  ·have:=(abq h.own g hg).2;omega
theorem Kh.below{w0 W W':AI}{X:List Nat}{rv:No}{R:List Tl3}(h:Kh w0 W X rv R)(hb:IT W.heap.size W W'):Kh w0 W' X rv R:=h.go (ah.af hb []) (by simp) (fun x hx=> .inl hx)
theorem Kh.rows{w0 W W':AI}{X:List Nat}{rv rv':No}{R R':List Tl3}(h:Kh w0 W X rv R)(hX:∀x∈X,x<W.heap.size)(hb:IT W.heap.size W W')(hr:fY W' W.heap.size rv' R'):Kh w0 W' X rv' R':=
 ⟨uW hr h.off.size,h.off.trans (ah.af hb _),h.new,fun g hg hm=>by have h1:=(abq hr g hg).1;have h2:=hX g hm;omega⟩
theorem Forest.rising{F:Forest}{σ :ag}(h:F.Ok σ)(n:ByteArray):Tr.bj (F.tr n).L:=(h.each n).rising
def Hn (w0:AI) (b n P V:Nat) (rv:No) (R:List Tl3) (W:AI):Prop:=∃d Sd D σ Fo aa,d.b=b/\d.s=St.empty/\fD W d Sd D σ Fo n aa 200/\R8 d D σ Fo n aa P V/\Fo.rows=R/\Kh w0 W (0::(d.blocks++Sd)) rv R/\W.heap[0]? =w0.heap[0]?
def pI (w0:AI) (z t b n P V nr:Nat) (rv:No) (R RF:List Tl3) (W:AI):Prop:=∃E S σ k Fo P0 V0 n0 a d v,E.t=t/\E.b=b/\E.txn=n+1/\E.s=St.empty/\E.ro=w0.heap[0]? /\(w0.heap.size<=E.rm/\∀g,rv.ownBlock=some g->g≠E.rm)/\P=P0+a/\V=V0+v/\
 rX E False W S σ k Fo nr/\Sp E σ Fo P0 V0 n0 a d v/\Fo.rows=RF/\Kh w0 W S rv R/\∀x∈E.rm::S,x<z
def R7 (w0:AI) (t b n P V i:Nat) (rv:No) (R:List Tl3) (W:AI):Prop:=∃(K:Kn) (S:List Nat) (G:Forest) (σ :ag) (aa:Nat) (l:List (Nat×Nat)) (ch:List Nat),K.t=t/\K.b=b/\K.txn=n+1/\K.limit=200/\K.s=St.empty/\K.ro=w0.heap[0]? /\
 Kq K i W S G σ aa l ch/\G.Ga/\G.size<=P/\G.mu<=V/\180+G.size<=K.base+4*P+V/\G.rows=R/\Kh w0 W S rv R
theorem rX.abC{E:Kv}{w:AI}{S:List Nat}{σ :ag}{k nr:Nat}{Fo:Forest}(h:rX E False w S σ k Fo nr):(∀x∈S,x<w.heap.size)/\E.rm<w.heap.size:=by
 obtain⟨n,-,h4⟩:=h.wr.roots;exact⟨(bK h.ok False).old h.wr.at_,h4.lt⟩
theorem Hn.below{w0:AI}{b n P V:Nat}{rv:No}{R:List Tl3}{W W':AI}(h:Hn w0 b n P V rv R W)(hb:IT W.heap.size W W'):Hn w0 b n P V rv R W':=by
 obtain⟨d,Sd,D,σ,Fo,aa,h1,h2,h3,h4,h5,h6,h7⟩:=h;exact⟨d,Sd,D,σ,Fo,aa,h1,h2,h3.below hb,h4,h5,h6.below hb,(hb.block _ h3.row.lt).trans h7⟩
theorem pI.below{w0:AI}{z t b n P V nr:Nat}{rv:No}{R RF:List Tl3}{W W':AI}(h:pI w0 z t b n P V nr rv R RF W)(hb:IT W.heap.size W W'):pI w0 z t b n P V nr rv R RF W':=by
 obtain⟨E,S,σ,k,Fo,P0,V0,n0,a,d,v,h1,h2,h3,h4,h5,h6,h7,h8,h9,fu,zM,oc,kT⟩:=h;exact⟨E,S,σ,k,Fo,P0,V0,n0,a,d,v,h1,h2,h3,h4,h5,h6,h7,h8,h9.below hb,fu,zM,oc.below hb,kT⟩
theorem R7.below{w0:AI}{t b n P V i:Nat}{rv:No}{R:List Tl3}{W W':AI}(h:R7 w0 t b n P V i rv R W)(hl:∀(K:Kn) (S:List Nat) (G:Forest) (σ :ag) (aa:Nat) (l:List (Nat×Nat)) (ch:List Nat),Kq K i W S G σ aa l ch->Kq K i W' S G σ aa l ch)(hb:IT W.heap.size W W'):R7 w0 t b n P V i rv R W':=by
 obtain⟨K,S,G,σ,aa,l,ch,h1,h2,h3,h4,h5,h6,h7,h8,h9,fu,zM,oc,kT⟩:=h;exact⟨K,S,G,σ,aa,l,ch,h1,h2,h3,h4,h5,h6,hl _ _ _ _ _ _ _ h7,h8,h9,fu,zM,oc,kT.below hb⟩
theorem pI.rows{w0:AI}{z t b n P V nr:Nat}{rv rv':No}{R R' RF:List Tl3}{W W':AI}(h:pI w0 z t b n P V nr rv R RF W)(hb:IT W.heap.size W W')(hr:fY W' W.heap.size rv' R'):pI w0 z t b n P V nr rv' R' RF W':=by
 obtain⟨E,S,σ,k,Fo,P0,V0,n0,a,d,v,h1,h2,h3,h4,h5,h6,h7,h8,h9,fu,zM,oc,kT⟩:=h;obtain⟨o1,o2⟩:=h9.abC;exact⟨E,S,σ,k,Fo,P0,V0,n0,a,d,v,h1,h2,h3,h4,h5,⟨h6.1,fun g hg=>by have:=(abq hr g hg).1;omega⟩,h7,h8,h9.below hb,fu,zM,oc.rows o1 hb hr,kT⟩
theorem pI.own{w0:AI}{z t b n P V nr:Nat}{rv:No}{R RF:List Tl3}{W:AI}(h:pI w0 z t b n P V nr rv R RF W):fY W w0.heap.size rv R:=by
 obtain⟨E,S,σ,k,Fo,P0,V0,n0,a,d,v,h1,h2,h3,h4,h5,h6,h7,h8,h9,fu,zM,oc,kT⟩:=h;exact oc.own
theorem pI.top{w0:AI}{z t b n P V nr:Nat}{rv:No}{R RF:List Tl3}{W:AI}(h:pI w0 z t b n P V nr rv R RF W):pI w0 W.heap.size t b n P V nr rv R RF W:=by
 obtain⟨E,S,σ,k,Fo,P0,V0,n0,a,d,v,h1,h2,h3,h4,h5,h6,h7,h8,h9,fu,zM,oc,kT⟩:=h;obtain⟨o1,o2⟩:=h9.abC;exact⟨E,S,σ,k,Fo,P0,V0,n0,a,d,v,h1,h2,h3,h4,h5,h6,h7,h8,h9,fu,zM,oc,fun x hx=>by
  rcases OF.1 hx with rfl|hx
  ·exact o2
  ·exact o1 x hx⟩
theorem pI.all{w0:AI}{z t b n P V nr:Nat}{rv:No}{R RF:List Tl3}{W:AI}(h:pI w0 z t b n P V nr rv R RF W):IT w0.heap.size w0 W:=by
 obtain⟨E,S,σ,k,Fo,P0,V0,n0,a,d,v,h1,h2,h3,h4,h5,h6,h7,h8,h9,fu,zM,oc,kT⟩:=h;obtain⟨x,f,dm,nn,Sf,lv,fv,hm,-⟩:=h9.wr.at_;exact⟨oc.off.os,oc.off.tape,oc.off.output,oc.off.size,fun i hi=>by
  by_cases e:i=0
  ·subst e;exact hm.row.2.trans h5
  ·exact oc.off.block i hi (by simpa using e)⟩
theorem Hn.all{w0:AI}{b n P V:Nat}{rv:No}{R:List Tl3}{W:AI}(h:Hn w0 b n P V rv R W):IT w0.heap.size w0 W:=by
 obtain⟨d,Sd,D,σ,Fo,aa,h1,h2,h3,h4,h5,h6,h7⟩:=h;exact⟨h6.off.os,h6.off.tape,h6.off.output,h6.off.size,fun i hi=>by
  by_cases e:i=0
  ·subst e;exact h7
  ·exact h6.off.block i hi (by simpa using e)⟩
theorem tM{w0:AI}{b n P V:Nat}{rv:No}{R:List Tl3}{W:AI}(h:Hn w0 b n P V rv R W)(hn:n<=1000)(hf:jK P V):aaf prog 11 #[.pointer (some ⟨b,0,none⟩)] W (fun e w'=>∃t,e= .returned (.tuple #[.pointer (some ⟨t,0,none⟩),.int .i64 0])/\pI w0 w'.heap.size t b n P V 0 rv R R w'):=by
 obtain⟨d,Sd,D,σ,Fo,aa,rfl,h2,h3,h4,h5,h6,h7⟩:=h;refine(JL h3 h2 hn h4 hf).mono ?_;rintro e w' ⟨t,E,S,rfl,k1,k2,k3,k4,k5,k6,k7,k8,k9,k10,k11⟩;refine⟨t,rfl,pI.top (z:=w'.heap.size+E.rm+(E.rm::S).sum+1) ⟨E,S,σ,0,Fo,P,V,Fo.size,0,0,0,k1,k2,k4,k5,k6.trans h7,⟨abw h6.off.size k11,fun g hg e=> ?_⟩,rfl,rfl,k7,k8,h5,h6.go k9 (fun x hx=> .inl ?_) k10,fun x hx=>by have:=kD hx;omega⟩⟩
 ·have:=(abq h6.own g hg).2;omega
 ·rw[IN]at hx
  subst hx;simp[Di.blocks]
theorem UE{w0:AI}{z t b n P V nr:Nat}{rv:No}{R RF:List Tl3}{W:AI}(h:pI w0 z t b n P V nr rv R RF W)(nk:nr<=100000)(name key val:ByteArray)(hn:name=eH\/name=eL)(dy:1<=key.size)(bR:key.size<=120)(hv:val.size<=1200)(hf:jK (P+1) (V+Tr.pieces val.size)):
  aaf prog 12 #[.pointer (some ⟨t,0,none⟩),.string name,.string key,.string val] W (fun e w'=>e= .returned (.int .i64 0)/\pI w0 w'.heap.size t b n (P+1) (V+Tr.pieces val.size) (nr+1) rv R (Tl3.put ⟨name,key,val⟩ RF) w'/\∃U,ah U W w'/\∀x∈U,x<z):=by
 obtain⟨E,S,σ,k,Fo,P0,V0,n0,a,d,v,rfl,rfl,h3,h4,h5,h6,rfl,rfl,h9,fu,rfl,oc,kT⟩:=h;refine(RR h9 fu nk name key val hn dy bR hv hf).mono ?_;rintro e w' ⟨rfl,y,tt,σ',S',k',bb,q1,q2,q3,q4,q5,q6,q7⟩;refine⟨rfl,pI.top (z:=(E.rm::S').sum+1) ⟨E.kK bb,S',σ',k',Fo.put name tt,P0,V0,n0,a+1,d,v+Tr.pieces val.size,rfl,rfl,h3,h4,h5,h6,by omega,by omega,q1,q2,?_,oc.go q6 (fun x hx=> ?_) q7,fun x hx=>Nat.lt_succ_of_le (kD hx)⟩,_,q6,kT⟩
 ·rw[Forest.JK q3 hn (Forest.rising h9.wr.ok) q5,q4]
 ·rcases OF.1 hx with rfl|hx
  ·exact .inr h6
  ·exact .inl hx
theorem UD{w0:AI}{z t b n P V nr:Nat}{rv:No}{R RF:List Tl3}{W:AI}(h:pI w0 z t b n P V nr rv R RF W)(nk:nr<=100000)(name key:ByteArray)(hn:name=eH\/name=eL)(hf:jK P V):
  aaf prog 81 #[.pointer (some ⟨t,0,none⟩),.string name,.string key] W (fun e w'=>∃ok,e= .returned (.tuple #[.bool ok,.int .i64 0])/\∃nr',nr'<=nr+1/\pI w0 w'.heap.size t b n P V nr' rv R (Tl3.del name key RF) w'/\∃U,ah U W w'/\∀x∈U,x<z):=by
 obtain⟨E,S,σ,k,Fo,P0,V0,n0,a,d,v,rfl,rfl,h3,h4,h5,h6,rfl,rfl,h9,fu,rfl,oc,kT⟩:=h;refine(RQ h9 fu nk name key hn hf).mono ?_;rintro e w' ⟨ok,rfl,hw⟩;rcases hw.out with⟨tt,σ',S',k',bb,-,q1,q2,q3,q4,q5⟩|⟨-,q1,q2⟩
 ·refine⟨ok,rfl,nr+1,AS _,pI.top (z:=(E.rm::S').sum+1) ⟨E.kK bb,S',σ',k',Fo.put name tt,P0,V0,n0,a,d+1,v,rfl,rfl,h3,h4,h5,h6,rfl,rfl,q1,q2,Forest.JJ hn (Forest.rising h9.wr.ok) q3,oc.go q4 (fun x hx=> ?_) q5,fun x hx=>Nat.lt_succ_of_le (kD hx)⟩,_,q4,kT⟩
  rcases OF.1 hx with rfl|hx
  ·exact .inr h6
  ·exact .inl hx
 ·exact⟨ok,rfl,nr,Nat.le_succ _,pI.top (z:=z) ⟨E,S,σ,k,Fo,P0,V0,n0,a,d,v,rfl,rfl,h3,h4,h5,h6,rfl,rfl,h9.below q2,fu,(Forest.RP hn q1).symm,oc.below q2,kT⟩,[],ah.af q2 [],by simp⟩
theorem Lt{w0:AI}{z t b n P V nr:Nat}{rv:No}{R:List Tl3}{W:AI}(h:pI w0 z t b n P V nr rv R R W)(nk:nr<=1000000)(hf:jK P V):aaf prog 13 #[.pointer (some ⟨t,0,none⟩)] W (fun e w'=>e= .returned (.tuple #[.bool false,.int .i64 0])/\R7 w0 t b n P V 1 rv R w'):=by
 obtain⟨E,S,σ,k,Fo,P0,V0,n0,a,d,v,rfl,rfl,h3,h4,h5,h6,rfl,rfl,h9,fu,zM,oc,kT⟩:=h;obtain⟨f1,f2⟩:=hf;have ho:=h9.wr.ok;have g1:=fu.size;have g2:=fu.ns;have g3:=fu.u;have g4:=fu.pc;have g5:=fu.sure;have g6:=fu.base;have g7:=fu.two.len ho;have g8:=fu.mu;have hp:Fr.pieces E.limit=5:=by rw[fu.limit];decide
 have h2:=h9.Fm (b:=E.base) (k':=13) (fu.az ho) (AS _) (by rw[fu.limit];omega) (by rw[fu.limit];omega);refine(Ot h2 nk (q:=4) (fun τ G hG hN=>(hG.B9 (by rw[hN];exact g7)).2) (by
  show Fo.NS.length*4+Fr.pieces E.limit<=13;rw[hp];omega)).mono ?_
 rintro e w' ⟨rfl,G,σ',aa,l,ch,S',k1,k2,k3,k4,k5⟩;have cZ:G.size=Fo.size:=by unfold Forest.size;rw[k2]
 have Wk:G.mu=Fo.mu:=by unfold Forest.mu;rw[k2]
 refine⟨rfl,(E.kK E.base).kn,S',G,σ',aa,l,ch,rfl,rfl,h3,fu.limit,h4,h5,k1,fun m hm=>fu.two m (by rw[<-k3];exact hm),by omega,by omega,?_,?_,oc.go k4 (fun x hx=> .inl hx) k5⟩
 ·show 180+G.size<=E.base+4*(P0+a)+(V0+v)
  omega
 ·rw[<-zM]
  unfold Forest.rows;rw[k2]
theorem yM{w0:AI}{t b n P V i:Nat}{rv:No}{R:List Tl3}{W:AI}(h:R7 w0 t b n P V i rv R W)(hi:i=1\/i=2\/i=3):aaf prog 13 #[.pointer (some ⟨t,0,none⟩)] W (fun e w'=>e= .returned (.tuple #[.bool false,.int .i64 0])/\R7 w0 t b n P V (i+1) rv R w'):=by
 obtain⟨K,S,G,σ,aa,l,ch,rfl,rfl,h3,h4,h5,h6,h7,h8,h9,fu,zM,oc,kT⟩:=h;have key:aaf prog 13 #[.pointer (some ⟨K.t,0,none⟩)] W (fun e w'=>e= .returned (.tuple #[.bool false,.int .i64 0])/\∃S',Kq K (i+1) w' S' G σ aa l ch/\ah S W w'/\aj W S S'):=by
  rcases hi with rfl|rfl|rfl
  ·exact Ji h7
  ·exact Jj h7
  ·exact Jk h7
 refine key.mono ?_;rintro e w' ⟨rfl,S',k1,k2,k3⟩;exact⟨rfl,K,S',G,σ,aa,l,ch,rfl,rfl,h3,h4,h5,h6,k1,h8,h9,fu,zM,oc,kT.go k2 (fun x hx=> .inl hx) k3⟩
theorem Qf{w0:AI}(hr:0<w0.heap.size){t b n P V:Nat}{rv:No}{R:List Tl3}{W:AI}(h:R7 w0 t b n P V 4 rv R W):aaf prog 13 #[.pointer (some ⟨t,0,none⟩)] W (fun e w'=>e= .returned (.tuple #[.bool true,.int .i64 0])/\Hn w0 b (n+1) P V rv R w'):=by
 obtain⟨K,S,G,σ,aa,l,ch,rfl,rfl,h3,h4,h5,h6,h7,h8,h9,fu,zM,oc,kT⟩:=h;refine(Nk h7).mono ?_;rintro e w' ⟨rfl,d',cM,D',k1,k2,k3,k4,k5,k6,k7,k8,k9,k10,k11,k12⟩;rw[h3,h4]at k1;rw[h3,h4]at k10;refine⟨rfl,d',cM,D',σ,G,aa,k2,k6.trans h5,k1,⟨h8,h9,fu,by rw[k7];omega⟩,oc,?_,k9.trans h6⟩;have hu:=kT.go (X':=d'.blocks++cM) k11 (fun x hx=> .inl hx) k12;refine⟨hu.own,hu.off,fun x hx=> ?_,fun g hg hm=> ?_⟩
 ·rcases OF.1 hx with rfl|hx
  ·exact .inl rfl
  ·exact hu.new x hx
 ·rcases OF.1 hm with hm|hm
  ·have:=(abq hu.own g hg).1;omega
  ·exact hu.ap g hg hm
def Ds (limit:Nat) (w:AI) (e:Ending) (w':AI):Prop:=∃b q r f g Sf Sd,e= .returned (.pointer (some ⟨b,0,none⟩))/\
 fD w' (pr b q r f g Sf limit) Sd (b7 (4*limit) limit) (fun _=>none) Forest.zero 1 1 limit/\IT w.heap.size w w'/\(∀x∈(pr b q r f g Sf limit).blocks++Sd,w.heap.size<=x)
theorem DH(limit:Nat)(hl:4<=limit/\limit<=512)(w:AI)(hr:aS w):aaf prog 80 #[.int .i64 limit] w (Ds limit w):=by
 have HR:=sh hr;have y4:IntKind.i64.wrap (4*(limit:Int))=((4*limit:Nat):Int):=by rw[IntKind.wrap_i64];omega
 have HN:Hid (∀W,aaf prog 41 #[.int .i64 ((4*limit:Nat):Int)] W (yG (4*limit) W)):=fun W=>AJ (4*limit) W (by omega) (by omega);have HF:Hid (eR (DevS.new (4*limit)) limit=(b7 (4*limit) limit,0)):=ue (by omega) (by omega);have HO:Hid (dQ (b7 (4*limit) limit)=0/\kQ (b7 (4*limit) limit)=qU limit):=AW (by omega) (by omega);have HL:=sh hl;obtain⟨n4,kc⟩:∃n4,n4=4*limit:=⟨_,rfl⟩;rw[<-kc]at HN HF HO y4;have PU:=sh kc;clear hr hl kc;go_enter func80,ntmps80
 go_wp2_with fail
 (go_at_call 41)
 refine(HN.out _).mono ?_;rintro e w1 ⟨g,S1,rfl,zP,Bg,Zp⟩;have TY:=sh zP;have H1:Hid (IT w.heap.size w w1/\∀b∈S1,w.heap.size<=b):=⟨Bg,Zp⟩;clear zP Bg Zp;go_wp2_with fail
 (go_at_call 42)
 have S7:(DevS.new n4).sec.length=n4:=by simp[DevS.new]
 have kA:4<=(limit:Int)/\(limit:Int)<=512/\4*(limit:Int)<=((DevS.new n4).sec.length:Int):=by
  have h1:=HL.out;have h2:=PU.out;rw[S7];omega
 have adk:=sh kA;clear S7 kA;refine(pd ((xA TY.out limit (HR.out.below H1.out.1) (Ha HR.out H1.out.2) (by show (0:Int)<=_;omega) adk.out 0 HF.out).mono (fun e w' h=>⟨⟨_,h.1⟩,h⟩))).mono ?_;rintro e w2 ⟨rfl,ru⟩;obtain⟨S2,mK,qW,Zq⟩:=Cr H1.out.1 H1.out.2 ru;have vE:=sh mK;have H2:Hid (IT w.heap.size w w2/\∀b∈S2,w.heap.size<=b):=⟨qW,Zq⟩;clear mK qW Zq ru;go_wp2_with fail
 (go_at_call 43)
 refine(Ng vE.out (HR.out.below H2.out.1) (by show (3:Int)<=_;omega) HO.out.1 HO.out.2 rfl).mono ?_;rintro e w3 ⟨b,q,r,f,Sf,rfl,fw,ar,MU,hr1,aa7,xF⟩;have KN:=sh fw;have du:=sh xF;have Ue:=sh (show w2.heap.size<=b/\w2.heap.size<=q/\w2.heap.size<=r/\∀x∈Sf,w2.heap.size<=x from ⟨ar,MU,hr1,aa7⟩);clear fw ar MU hr1 aa7 xF;go_wp2_with fail
 go_ret
 have SJ:=KN.out;have zV:=du.out.size;have kd:=H2.out.1.size;have kc:=PU.out;obtain⟨nb,nq,nr,nf⟩:=Ue.out;have ZR:=vE.out.below du.out;have nh:∀x∈(pr b q r f g Sf limit).blocks,w2.heap.size<=x/\x<w3.heap.size:=fun x hx=>by
  refine⟨?_,SJ.old x hx⟩;simp only[Di.blocks,pr,aaT,OF,By,abG,List.not_mem_nil,or_false]at hx;rcases hx with rfl|rfl|rfl|hx|hx
  ·exact nb
  ·exact nr
  ·exact nq
  ·exact nf _ hx
  ·cases hx
 have UW:∀x∈S2,w.heap.size<=x/\x<w2.heap.size:=fun x hx=>⟨H2.out.2 x hx,vE.out.old x hx⟩;have bd:=HR.out.lt;subst kc;refine⟨b,q,r,f,g,Sf,S2,rfl,⟨SJ,ZR,HR.out.below (H2.out.1.trans (du.out.mono kd)),IF HL.out,⟨fun hs=> ?_,fun hs=> ?_,fun x hx hs=> ?_,fun hs=> ?_,fun hs=> ?_⟩,fun g hg=>(by cases hg),.inl rfl⟩,H2.out.1.trans (du.out.mono kd),?_⟩
 ·have h1:=UW _ hs;have h2:=nh b (by simp[Di.blocks,pr]);exact absurd h1.2 (by show ¬ b<_;omega)
 ·have h1:=UW _ hs;have h2:=nh r (by simp[Di.blocks,pr]);exact absurd h1.2 (by show ¬ r<_;omega)
 ·have h1:=UW _ hs;have h2:=nh x (by simp[Di.blocks,hx]);omega
 ·have h1:=UW _ hs;omega
 ·have h2:=nh _ (by simp only[Di.blocks,OF,By];exact .inr (.inr (.inl hs)));omega
 ·intro x hx
  rcases By.1 hx with hx|hx
  ·have:=nh x hx;omega
  ·exact(UW x hx).1
theorem Qg{w w1 W:AI}{b q r f g:Nat}{Sf Sd:List Nat}{rv:No}(hr:aS w)(h:fD w1 (pr b q r f g Sf 200) Sd (b7 (4*200) 200) (fun _=>none) Forest.zero 1 1 200)(hb:IT w.heap.size w w1)(hn:∀x∈(pr b q r f g Sf 200).blocks++Sd,w.heap.size<=x)(aC:IT w1.heap.size w1 W)(aq:fY W w1.heap.size rv []):Hn w b 1 0 0 rv [] W:=by
 have MV:=hr.lt;have hs:=hb.size;refine⟨pr b q r f g Sf 200,Sd,_,_,Forest.zero,1,rfl,rfl,h.below aC,⟨fun m hm=>(by cases hm),AS _,AS _,?_⟩,rfl,⟨uW aq hs,(ah.af (hb.trans (aC.mono hs)) []).mono (by simp),fun x hx=> ?_,fun y hy hm=> ?_⟩,(hb.trans (aC.mono hs)).block _ MV⟩
 ·show 180+0<=0+(200-1)+4*0+0
  omega
 ·rcases OF.1 hx with rfl|hx
  ·exact .inl rfl
  ·exact .inr (hn x hx)
 ·have h1:=(abq aq y hy).1
  rcases OF.1 hm with rfl|hm
  ·omega
  ·rcases By.1 hm with hm|hm
   ·have:=h.db.old y hm;omega
   ·have:=h.dev.old y hm;omega
def lC (n:Int):ByteArray:=if bits .and .i64 n 1=0 then eL else eH
theorem DL(n:Int):lC n=eH\/lC n=eL:=by unfold lC;split<;>simp
theorem Ic(n:Int)(w:AI):aaf prog 82 #[.int .i64 n] w (fun e w'=>e= .returned (.string (lC n))/\w=w'):=by
 obtain⟨m,hm⟩:∃m,m=bits .and .i64 n 1:=⟨_,rfl⟩;have jf:=hm.symm;have fh:((m==0)=true/\lC n=⟨#[98]⟩)\/((m==0)=false/\lC n=⟨#[97,0]⟩):=by
  unfold lC;rw[<-hm];by_cases h:m=0
  ·exact .inl ⟨by rw[h];rfl,if_pos h⟩
  ·exact .inr ⟨by rw[beq_eq_false_iff_ne];exact h,if_neg h⟩
 clear hm;rcases fh with⟨z1,z2⟩|⟨z1,z2⟩;all_goals
  rw[z2];go_enter func82,ntmps82
  go_wp2_with fail
  go_ret
  exact⟨rfl,rfl⟩
def AuS (w0:AI) (z t b n P V nr i:Nat) (rv:No) (R:List Tl3) (W:AI):Prop:=if i=0 then pI w0 z t b n P V nr rv R R W else if i=5 then Hn w0 b (n+1) P V rv R W else R7 w0 t b n P V i rv R W
theorem Lu{w0:AI}(hr:0<w0.heap.size){z t b n P V nr i:Nat}{rv:No}{R:List Tl3}{W:AI}(h:AuS w0 z t b n P V nr i rv R W)(hi:i<5)(nk:nr<=1000000)(hf:jK P V):aaf prog 13 #[.pointer (some ⟨t,0,none⟩)] W (fun e w'=>e= .returned (.tuple #[.bool (decide (i=4)),.int .i64 0])/\AuS w0 z t b n P V nr (i+1) rv R w'):=by
 match i,hi with
 | 0,_=>exact Lt h nk hf
 | 1,_=>exact yM h (.inl rfl)
 | 2,_=>exact yM h (.inr (.inl rfl))
 | 3,_=>exact yM h (.inr (.inr rfl))
 | 4,_=>exact Qf hr h
theorem mC{w0:AI}(hr:0<w0.heap.size){z t b n P V nr:Nat}{rv:No}{R:List Tl3}{W:AI}(h:pI w0 z t b n P V nr rv R R W)(nk:nr<=1000000)(hf:jK P V):aaf prog 85 #[.pointer (some ⟨t,0,none⟩)] W (fun e w'=>e= .returned (.bool true)/\Hn w0 b (n+1) P V rv R w'):=by
 have H0:=sh (show AuS w0 z t b n P V nr 0 rv R W from h);have HF:=sh hf;clear h hf;go_enter func85,ntmps85
 go_wp2_with fail
 go_loopw [3] (fun iv wr=>∃i:Nat,iv= .int .i64 i/\i<=5/\Hid (AuS w0 z t b n P V nr i rv R wr)) (fun iv _=>5-(intOf iv).toNat)
 case atStart=>exact⟨0,rfl,by omega,H0⟩
 case round=>
  obtain⟨i,rfl,hi,HS⟩:=hrel;by_cases aH:i<5
  ·have z1:decide ((i:Int)<5)=true:=decide_eq_true (by omega)
   have ka:=sh (Lu hr HS.out aH nk HF.out);obtain⟨q,hq⟩:∃q,q=decide (i=4):=⟨_,rfl⟩;rw[<-hq]at ka;have z2:((i:Int)==4)=q:=by
    rw[hq];by_cases e:i=4
    ·subst e;rfl
    ·rw[decide_eq_false e,beq_eq_false_iff_ne];omega
   clear hq H0;go_wp2_with fail
   refine ka.out.mono ?_;rintro e w2 ⟨rfl,kd⟩;have jO:=sh kd;clear kd;cases q with
   | true=>
    go_wp2_with fail
    go_roundw
    case rel=>exact⟨i+1,by go_num,by omega,jO⟩
    case measure=>simp[intOf];omega
   | false=>
    go_wp2_with fail
    go_roundw
    case rel=>exact⟨i+1,by go_num,by omega,jO⟩
    case measure=>simp[intOf];omega
  ·have z1:decide ((i:Int)<5)=false:=decide_eq_false (by omega)
   obtain rfl:i=5:=by omega
   have HE:=sh (show Hn w0 b (n+1) P V rv R wr from HS.out);clear HS H0;go_wp2_with fail
   go_ret
   exact⟨rfl,HE.out⟩
end Go.Proofs.YtjbcbnemdhbhbaaGreatDoor
