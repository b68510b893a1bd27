import Derived.Test.YtjbcbnemdhbhbaaGreatDoorB33
import Derived.Test.YtjbcbnemdhbhbaaGreatDoorB34
import Derived.Test.YtjbcbnemdhbhbaaGreatDoorB35
set_option maxRecDepth 100000
set_option linter.unusedVariables false
set_option linter.unusedSimpArgs false
set_option maxHeartbeats 40000000
open Exists renaming intro→acD
open Go renaming Value→IS,World→AI
open Go.IntKind renaming wrap_i64→acC
open Go.Lib renaming hid→sh
open Go.RowKit.Below renaming refl→IN
open Go.Value renaming ownBlock→aaU,slice→acf
open Go.World.ownsRow renaming lt→abr
open List renaming eq_nil_of_length_eq_zero→abZ,getD_eq_getElem?_getD→acE,getElem?_eq_getElem→aaG,getElem?_eq_none→acO,length_append→BY,length_take→abv,mem_append→AT,mem_cons→IT,mem_cons_of_mem→ace,mem_singleton→By,nodup_append→aai,nodup_cons→abN,take_append_drop→abm,take_length→acB
open List.Pairwise renaming sublist→afh
open Nat renaming le_refl→AS,le_trans→abE,zero_le→abc
open Option renaming mem_toList→abz
namespace Go.Proofs.YtjbcbnemdhbhbaaGreatDoor
open Go.Proofs.Tryz
open Go.RowKit
theorem bd.yP{E:Kv}{w:AI}{S hd hd':List Nat}{x:Tx}{f dm nn:Nat}{Sf:List Nat}{lv fv:IS}(h:bd E w S hd x f dm nn Sf lv fv)(hp:hd.Perm hd'):bd E w S hd' x f dm nn Sf lv fv:=
 ⟨h.cells,h.free,h.map,h.nn,h.loose,h.aM,h.db,h.rd,h.pg,h.dev,h.row,h.ok.yP hp,h.blocks,h.nodup,h.apart⟩
theorem rK.tight{w:AI}{f:Nat}{S:List Nat}{l:List (Nat×Nat)}(h:rK w f S l):∃S0,S0.Nodup/\(∀b∈S0,b∈S)/\rK w f S0 l:=by
 obtain⟨⟨A,c,h1,h2,h3⟩,h4,h5⟩:=h;have bL:=bP h2 h1 (by decide);cases A with
 | none=>exact⟨[f],by simp,fun b hb=>by rw[By]at hb;subst hb;exact h4,⟨none,c,h1,h2,fun a ha=>by cases ha⟩,by simp,fun b hb=>by rw[By]at hb;subst hb;exact h5 _ h4⟩
 | some a=>
  have h9:=(h2.row).2.2.2.2.1 a rfl;have oL:a.block≠f:=fun e=>by
   rw[h9.1,e]at bL;exact bL rfl
  refine⟨[f,a.block],by simp[Ne.symm oL],fun b hb=> ?_,⟨some a,c,h1,h2,fun a' ha=>by cases ha;simp⟩,by simp,fun b hb=> ?_⟩;all_goals
   simp only[IT,List.not_mem_nil,or_false]at hb;rcases hb with rfl|rfl
   ·first|exact h4|exact h5 _ h4
   ·first|exact h3 a rfl|exact h5 _ (h3 a rfl)
theorem Forest.Ok.there{F:Forest}{σ :ag}(h:F.Ok σ){n:Nat}(hn:n∈F.aa): σ n≠none:=by
 unfold Forest.aa at hn;rcases AT.1 hn with hn|hn
 ·exact(h.main.mem n hn).2.2
 ·obtain⟨x,-,hn⟩:=List.mem_flatMap.1 hn
  exact((h.each x).mem n hn).2.2
theorem Ew{x:Tx}{limit:Nat}{D:ag}{U pc ch:List Nat}(k:x.Ok limit D U pc ch){t:Nat}(ht:t<=1099511627776){G:Forest}{σ :ag}(hG:G.Ok σ)(hb:x.book D U= σ){L:List (Nat×Nat)}(hL:L=Fr.aW t x.fr (x.more pc))(hpi:Fr.pieces L.length<=ch.length):
  (Fr.pg L++(G.aa++ch)).Perm (iS x.aa)/\Fr.Sorted L/\(∀y∈L,y.1<=1099511627776)/\
  (∀n∈G.aa,(iR x.ax ch L ch.length n≠none/\ σ n=iR x.ax ch L ch.length n)\/(iR x.ax ch L ch.length n=none/\n∈U/\ σ n=D n))/\
  (∀n,iR x.ax ch L ch.length n≠none->n∈G.aa\/n∈ch)/\
  (∀i (hi:i<ch.length),iR x.ax ch L ch.length ch[i]=some (jc ch L i)/\(eT L ch.length i).length<=40)/\
  (∀n,iR x.ax ch L ch.length n≠none->1<=n/\n<x.aa):=by
 obtain⟨P',h1,h2,h3,h4⟩:=k.laid t ht;rw[<-hL]at h2 h3 h4;have cg:=h2.nodup_iff.2 (ku _);have hP:P'.Nodup:=(aai.1 (aai.1 cg).2.1).1;have hPG:P'.Perm G.aa:=(List.perm_ext_iff_of_nodup hP hG.nodup).2 fun n=>by
  rw[h1,hb];exact⟨hG.full n,fun h=>hG.there h⟩
 have qY:(Fr.pg L++(G.aa++ch)).Perm (iS x.aa):=(List.Perm.append_left _ (List.Perm.append_right _ hPG.symm)).trans h2;have afz:=qY.nodup_iff.2 (ku _);obtain⟨-,n2,-⟩:=aai.1 afz;obtain⟨-,n3,n4⟩:=aai.1 n2;have VN:∀n,n∉ch->iR x.ax ch L ch.length n=x.ax n:=fun n hn=>nV _ _ _ _ _ (by rw[acB];exact hn) (AS _);refine⟨qY,h3,h4,fun n hn=> ?_,fun n hn=> ?_,fun i hi=>⟨Gq _ _ _ n3 _ i hi (AS _),?_⟩,fun n hn=> ?_⟩
 ·have QH:n∉ch:=fun hc=>n4 n hn n hc rfl
  rw[VN n QH,<-hb];unfold Tx.book;cases hd:x.ax n with
  | some p=>exact .inl (by simp)
  | none=>
   have h9:=hG.there hn;rw[<-hb]at h9;unfold Tx.book at h9;rw[hd]at h9;simp only at h9 |-;by_cases hc:n∈U/\n∉x.aM
   ·rw[if_pos hc];exact .inr ⟨trivial,hc.1,rfl⟩
   ·rw[if_neg hc]at h9;exact absurd rfl h9
 ·by_cases hc:n∈ch
  ·exact .inr hc
  ·rw[VN n hc]at hn
   refine .inl (hG.full n ?_);rw[<-hb];unfold Tx.book;cases hd:x.ax n with
   | some p=>simp
   | none=>exact absurd hd hn
 ·have yw:0<ch.length:=by omega
  rw[rk L ch.length i yw hi];have:=FR L.length i ch.length yw (m8 hpi);omega
 ·by_cases hc:n∈ch
  ·exact k.range.2.2.2.2.2 n hc
  ·rw[VN n hc]at hn
   exact k.range.2.1 n hn
theorem fX.part{w:AI}{b o:Nat}{l:List (Nat×Nat)}(h:fX w (some ⟨b,o,none⟩) l)(i n:Nat):fX w (some ⟨b,o+i*2,none⟩) ((l.drop i).take n):=by
 intro j u hu;have hl:(aN ((l.drop i).take n)).length=((l.drop i).take n).length*2:=cH _;have hj:j<((l.drop i).take n).length*2:=by
  rw[<-hl];by_cases hc:j<(aN ((l.drop i).take n)).length
  ·exact hc
  ·rw[acO (Nat.le_of_not_lt hc)]at hu;cases hu
 have e0:l=l.take i++l.drop i:=(abm i l).symm;have uU:i<=l.length:=by
  rw[abv,List.length_drop]at hj;omega
 have e1:l.drop i=(l.drop i).take n++(l.drop i).drop n:=(abm n _).symm;have e2:(aN l)[i*2+j]? =some u:=by
  rw[e0,e1,fh,fh];have h1:(aN (l.take i)).length=i*2:=by rw[cH,abv];omega
  rw[List.getElem?_append_right (by rw[h1];omega),h1,show i*2+j-i*2=j by omega,List.getElem?_append_left (by rw[hl];exact hj)];exact hu
 obtain⟨b',o',hA,hb,hc⟩:=h (i*2+j) u e2;injection hA with hA;injection hA with a1 a2;subst a1 a2;exact⟨b,o+i*2,rfl,hb,by rw[Nat.add_assoc];exact hc⟩
structure dp (E:Kv) (w:AI) (S:List Nat) (aa:Nat) (l:List (Nat×Nat)) (d:ag) (ch:List Nat) (f dm nn:Nat) (Sf:List Nat) (lv:IS):Prop where
 cells:Bk w E.t 103 (aT E ⟨aa,l,d,ch,[]⟩ f dm lv (.slice none 0 0))
 free:rK w f Sf l
 map:IMap prog 3 w dm nn (dI E.txn d)
 nn:nn<=600
 loose:w.ownsRow 0 3 1 lv ch.length (ints ch)
 db:Bk w E.b 99 #[.pointer (some ⟨E.q,0,none⟩),.pointer (some ⟨E.r,0,none⟩),E.c2,E.c3,E.c4]
 rd:Bk w E.r 195 E.s.cells
 pg:Pg w E.q E.T E.g E.P
 dev:Dev w E.g E.Sd E.D
 row:kG E.ro w
 blocks:S=aB E.t f dm Sf lv (.slice none 0 0)++E.still
 nodup:(aB E.t f dm Sf lv (.slice none 0 0)).Nodup
 apart:∀b∈aB E.t f dm Sf lv (.slice none 0 0),b∉E.still
def lenOf:IS->Nat
 | .slice _ n _=>n
 | _=>0
structure se (E:Kv) (F:Prop) (σ :ag) (w1:AI) (S1:List Nat) (k1:Nat) (wr:AI) (ch:List Nat) (A:Option Addr) (c f2:Nat) (x:Tx) (f dm nn:Nat) (Sf:List Nat) (lv fv:IS) (S' S2:List Nat):Prop where
 mem:bd E wr S' ch x f dm nn Sf lv fv
 book:x.book E.cF E.U= σ
 room:Room E F (k1-ch.length) x
 keep:∀n∈ch,n∉E.keep
 off:ah S1 w1 wr
 fresh:aj w1 S1 S'
 row:wr.ownsRow w1.heap.size 3 1 (.slice A ch.length c) ch.length (ints ch)
 NO:∀g,aaU (.slice A ch.length c)=some g->g∉S'/\g∉S2
 list:rK wr f2 S2 (Fr.aW E.txn x.fr (x.more E.pc))
 new:∀b∈S2,w1.heap.size<=b/\b∉S'
structure Laid (E:Kv) (F:Prop) (S:List Nat) (Fo:Forest) (w w':AI) (G:Forest) (σ':ag) (aa:Nat) (l:List (Nat×Nat)) (d:ag) (ch:List Nat) (f dm nn:Nat) (Sf:List Nat) (lv:IS) (S':List Nat):Prop where
 tr:G.tr=Fo.tr
 NS:G.NS=Fo.NS
 R:∀n,G.R n=none
 ok:G.Ok σ'
 mem:dp { E with root:=G.main.root,yk:=(ch.headD 0:Nat) } w' S' aa l d ch f dm nn Sf lv
 off:ah S w w'
 fresh:aj w S S'
 le:1<=aa/\aa<=E.limit
 perm:(Fr.pg l++(G.aa++ch)).Perm (iS aa)
 sorted:Fr.Sorted l
 eQ:∀y∈l,y.1<=1099511627776
 tree:∀n∈G.aa,(d n≠none/\ σ' n=d n)\/(d n=none/\n∈E.U/\ σ' n=E.cF n)
 ax:∀n,d n≠none->n∈G.aa\/n∈ch
 chain:∀i (hi:i<ch.length),d ch[i]=some (jc ch l i)/\(eT l ch.length i).length<=40
 range:∀n,d n≠none->1<=n/\n<aa
 stamps:∀y∈l,y.1<=E.txn
 wV:∀n,d n≠none->n∉E.keep
 room:F\/E.base<=(l.filter fun y=>decide (y.1<E.txn)).length+(E.limit-aa)
 oG:ch.length<=Fr.pieces E.limit
def xT (E:Kv) (F:Prop) (S:List Nat) (Fo:Forest) (w:AI) (e:Ending) (w':AI):Prop:=
 (e= .returned (.int .i64 0)/\∃G σ' aa l d ch f dm nn Sf lv S',Laid E F S Fo w w' G σ' aa l d ch f dm nn Sf lv S')
 \/ (F/\e= .returned (.int .i64 9)/\∃(r:Int) (hd S':List Nat) (x:Tx) (f dm nn:Nat) (Sf:List Nat) (lv fv:IS),bd { E with root:=r } w' S' hd x f dm nn Sf lv fv/\ah S w w'/\aj w S S')
theorem Ol{E:Kv}(hE:E.Ok){F:Prop}{w:AI}{S:List Nat}{σ :ag}{k nr:Nat}{Fo:Forest}(h:Wr E F w S σ k Fo nr)(nR:nr<=1000000)(IM:w.ownsRow 0 3 1 E.c3 E.pc.length (ints E.pc))(Mw:∀g,E.c3.ownBlock=some g->g∉S)
  {q:Nat} (qZ:∀(τ :ag) (G:Forest),G.Ok τ ->G.NS=Fo.NS->Tr.fa τ q G.main.root G.main.P G.main.L) (hk:F\/Fo.NS.length*q+Fr.pieces E.limit<=k):
  Calls prog 50 #[.pointer (some ⟨E.t,0,none⟩)] w (xT E F S Fo w):=by
 have HN:=sh (Jd hE h nR qZ (hk.imp id (fun _=>by omega)));have HE:=sh hE;have HPV:=sh IM;have xP:=sh Mw;have HKK:=sh hk;have HS:=sh ((cj hE F).old h.at_);obtain⟨i0,hi,ef,dK,dY⟩:=info_parts iz;clear h IM Mw hk hE qZ;go_enter func50,ntmps50
 go_wp2_with fail
 refine HN.out.mono ?_;rintro e w1 (⟨rfl,G,σ1,S1,k1,g1,g2,g3,g4,cL,dw,vu,nO⟩|⟨hF,rfl,r,σ1,S1,cL,vu,nO⟩)
 ·obtain⟨x,f,dm,nn,Sf,lv,fv,hm,hσ,SU⟩:=cL
  obtain⟨E1,rT⟩:∃E1:Kv,E1={ E with root:=(G.main.root:Nat) }:=⟨_,rfl⟩;have hE1:E1.Ok:=by rw[rT];exact HE.out.E4 _
  have LV:E1.t=E.t:=by rw[rT]
  have Zc:E1.pc=E.pc:=by rw[rT]
  have hEl:E1.limit=E.limit:=by rw[rT]
  have Ke:E1.c3=E.c3:=by rw[rT]
  have hσ':x.book E1.cF E1.U= σ1:=by rw[rT];exact hσ.symm
  have aal:Room E1 F k1 x:=by rw[rT];exact SU.other ⟨rfl,rfl,rfl,rfl,rfl,rfl⟩
  have IG:bd E1 w1 S1 [] x f dm nn Sf lv fv:=by rw[rT];exact hm
  have VV:∀W,ah S w W->W.ownsRow 0 3 1 E1.c3 E1.pc.length (ints E1.pc):=fun W hW=>by
   rw[Ke,Zc];exact hW.own HPV.out (fun g hg=>xP.out g hg)
  have adQ:=sh VV;have HE1:=sh hE1;have Xo:F\/Fr.pieces E1.limit<=k1:=HKK.out.imp id (fun h9=>by rw[hEl];omega);have HKP:=sh Xo;have FE:=sh (show Calls prog 110 #[.pointer (some ⟨E.t,0,none⟩),.slice none 0 0] w1 (mn (Fr.aW E1.txn x.fr (x.more E1.pc)) w1) from by
   have:=xx (A:=none) (c:=0) hE1 IG (VV w1 vu) (Sl.nil _ none);rw[LV]at this;exact this)
  have HG:=sh (show G.tr=Fo.tr/\G.NS=Fo.NS/\(∀n,G.R n=none)/\G.Ok σ1 from ⟨g1,g2,g3,g4⟩);have HM:=sh (show bd E1 w1 S1 [] x f dm nn Sf lv fv/\x.book E1.cF E1.U= σ1/\Room E1 F k1 x from ⟨IG,hσ',aal⟩);have iN:=sh (show ah S w w1/\aj w S S1 from ⟨vu,nO⟩);have xM:=sh (show E1={ E with root:=(G.main.root:Nat) }/\E1.t=E.t from ⟨rT,LV⟩);clear hm hσ SU rT hE1 LV Zc hEl Ke hσ' aal IG VV Xo g1 g2 g3 g4 dw vu nO;go_wp2_with fail
  refine FE.out.mono ?_;rintro e w2 ⟨f2,S2,rfl,Mb,az,Mq⟩;have h0:Hid (∃x f dm nn Sf lv fv S' S2,se E1 F σ1 w1 S1 k1 w2 [] none 0 f2 x f dm nn Sf lv fv S' S2):=by
   obtain⟨m1,m2,m3⟩:=HM.out;exact⟨x,f,dm,nn,Sf,lv,fv,S1,S2,m1.off (ah.ae az []) (by simp),m2,by simpa using m3,(fun n hn=>by cases hn),ah.ae az S1,aj.refl _ _,World.ownsRow_nil _ _ _ _,(fun g hg=>by cases hg),Mb,fun b hb=>⟨Mq b hb,fun hs=>by have:=Mq b hb;have:=m1.old b hs;omega⟩⟩
  clear Mb az Mq;go_wp2_with fail
  go_loopw [4,5,6] (fun cv l5 ev wr=>∃(ch:List Nat) (A:Option Addr) (c f2:Nat),cv= .slice A ch.length c/\l5= .pointer (some ⟨f2,0,none⟩)/\ev= .int .i64 0/\ch.length<=13/\Hid (ch.length<=Fr.pieces E1.limit)/\Hid (∃x f dm nn Sf lv fv S' S2,se E1 F σ1 w1 S1 k1 wr ch A c f2 x f dm nn Sf lv fv S' S2)) (fun cv _ _ _=>14-lenOf cv)
  case atStart=>exact⟨[],none,0,f2,rfl,rfl,rfl,by simp,sh (abc _),h0⟩
  case round=>
   obtain⟨ch,A,c,f3,rfl,rfl,rfl,mX,hFW,hI⟩:=hrel;obtain⟨x,f,dm,nn,Sf,lv,fv,S',S3,hC⟩:=hI.out;obtain⟨-,-,hlen⟩:=hC.mem.ok.spare;have Xb:(Fr.aW E1.txn x.fr (x.more E1.pc)).length=x.fr.length+(x.more E1.pc).length:=(Fr.mq hC.mem.ok.sorted hC.mem.ok.spare.1).2.2;have hle:=hC.mem.ok.le;have kS:=hC.mem.ok.lim;have KC:=sh (DL hC.list.fl);have Sb:=sh (qS (Fr.aW E1.txn x.fr (x.more E1.pc)).length wr (by omega));obtain⟨p,hp⟩:∃p,p=Fr.pieces (Fr.aW E1.txn x.fr (x.more E1.pc)).length:=⟨_,rfl⟩;have alL:p<=13:=by rw[hp];exact Jn (by omega)
   have ais:p<=Fr.pieces E1.limit:=by rw[hp];exact BP (by omega)
   rw[<-hp]at Sb;obtain⟨m,rX⟩:∃m,m=ch.length:=⟨_,rfl⟩;have HC:=sh hC;have HP:=sh hp;have vY:=sh rX;rw[<-rX]at mX |-;obtain⟨ln,SZ⟩:∃ln,ln=(Fr.aW E1.txn x.fr (x.more E1.pc)).length:=⟨_,rfl⟩;have vX:=sh SZ;rw[<-SZ]at KC Sb;by_cases aI:m<p
   ·have z1:decide ((m:Int)<(p:Int))=true:=decide_eq_true (by omega)
    have Sa:=sh (show Calls prog 113 #[.pointer (some ⟨E.t,0,none⟩)] wr (mm E1 S' ch x wr) from by rw[<-xM.out.2];exact BN HE1.out hC.mem);clear hC hI hlen Xb hle kS hp rX SZ h0;go_wp2_with fail
    refine KC.out.mono ?_;rintro e w9 ⟨rfl,rfl⟩;go_wp2_with fail
    refine Sb.out.mono ?_;rintro e w9 ⟨rfl,rfl⟩;go_wp2_with fail
    refine Sa.out.mono ?_;rintro e w3 (⟨n,x',rfl,ey,S4,f4,CO,Je,Hc,C0,CP,kK,tE,Xi⟩|⟨rfl,u7,S4,f4,CO,Je,Hc,C0,CP,kK,tE,Xi⟩)
    ·have b7:∀g,aaU (.slice A m c)=some g->g∉S4/\g<w3.heap.size/\w1.heap.size<=g:=fun g hg=>by
      rw[vY.out]at hg;obtain⟨r1,r2⟩:=HC.out.NO g hg;obtain⟨r3,r4⟩:=abr HC.out.row g hg;refine⟨fun hs=> ?_,Nat.lt_of_lt_of_le r4 tE.size,r3⟩;rcases Xi g hs with h9|h9
      ·exact r1 h9
      ·omega
     have Gi:w3.ownsRow w1.heap.size 3 1 (.slice A m c) m (ints ch):=by
      rw[vY.out];exact tE.own HC.out.row (fun g hg=>(HC.out.NO g hg).1)
     have fx:=sh b7;have pN:=sh Gi;have HM4:=sh kK;have HX:=sh (show Tx.ei E1.limit E1.upto.toNat x n x'/\ah S' wr w3/\aj wr S' S4 from ⟨ey,tE,Xi⟩);have CK:=sh (HC.out.room.take ey (HKP.out.imp id (fun h9=>by have:=vY.out;omega)));have V7:w1.heap.size<=w3.heap.size:=abE HC.out.off.size tE.size;have adZ:=sh (show Sl (w3.alloc (.cells #[.int .i64 n] 3)) (some ⟨w3.heap.size,0,none⟩) (ints [n]) from fun j u hu=>by
      cases j with
      | zero=>
       simp[ints]at hu;subst hu;exact⟨w3.heap.size,0,rfl,by simp,(Bk.new w3 3 #[.int .i64 n]).cell 0⟩
      | succ j=>simp[ints]at hu)
     clear b7 Gi kK ey tE Xi;go_wp2_with (first
      | (at_builtin;refine cJ _ rfl (.tmp 46) (.tmp 48) 51 rfl w1.heap.size 3 i0 (.int .i64 0) 8 underlying51 hi ef dK dY rfl (.slice A m c) m (ints ch) rfl (World.ownsRow.alloc pN.out _) (some ⟨w3.heap.size,0,none⟩) 1 1 (ints [n]) rfl rfl adZ.out (gD [n]) (by unfold maxLen;omega) (by omega) (by simp;omega) ?_;intro v4 w4 bM cd F8)
      | fail)
     have hwo:ah ((aaU (.slice A m c)).toList) w3 w4:=((ah.refl _ w3).alloc _).grown cd (fun g hg=> .inl (by rw[hg];simp));have Kk:bd E1 w4 S4 (n::ch) x' f4 CO Je Hc C0 CP:=HM4.out.off hwo (fun b hb hs=>by
      rw[abz]at hs;exact(fx.out b hs).1 hb)
     have kV:ah S1 w1 w4:=(HC.out.off.then HX.out.2.1 HC.out.fresh).then hwo (fun g hg=>by
      rw[abz]at hg;exact .inr (fx.out g hg).2.2)
     have AD:aj w1 S1 S4:=HC.out.fresh.trans HX.out.2.2 HC.out.off.size;obtain⟨A5,c5,rfl,-,-⟩:=bg bM;have oR:w4.ownsRow w1.heap.size 3 1 (.slice A5 (ch++[n]).length c5) (ch++[n]).length (ints (ch++[n])):=by
      rw[BY,lW,<-vY.out];exact bM
     have VX:∀g,aaU (.slice A5 (ch++[n]).length c5)=some g->g∉S4/\g<w4.heap.size:=fun g hg=>by
      refine⟨fun hs=> ?_,(abr oR g hg).2⟩;have uT:aaU (.slice A5 (m+1) c5)=some g:=by
       rw[BY,<-vY.out]at hg;exact hg
      rcases F8 with h9|h9
      ·rw[h9]at uT
       exact(fx.out g uT).1 hs
      ·rw[h9]at uT
       injection uT with uT;have h8:=HM4.out.old g hs;simp at uT;omega
     have ad2:=sh (show Calls prog 110 #[.pointer (some ⟨E.t,0,none⟩),.slice A5 (m+1) c5] w4 (mn (Fr.aW E1.txn x'.fr (x'.more E1.pc)) w4) from by
      have h9:=xx (A:=A5) (c:=c5) HE1.out (Kk.yP (List.perm_append_singleton n ch).symm) (adQ.out w4 (iN.out.1.then kV iN.out.2)) (Sl.eG oR);rw[xM.out.2,BY,<-vY.out]at h9;exact h9)
     have WR:=sh (show ∀(f5:Nat) (S5:List Nat) (w5:AI),rK w5 f5 S5 (Fr.aW E1.txn x'.fr (x'.more E1.pc))->Below w4.heap.size w4 w5->(∀b∈S5,w4.heap.size<=b)->se E1 F σ1 w1 S1 k1 w5 (ch++[n]) A5 c5 f5 x' f4 CO Je Hc C0 CP S4 S5 from fun f5 S5 w5 Vx dO QG=>
      ⟨(Kk.yP (List.perm_append_singleton n ch).symm).off (ah.ae dO []) (by simp),by rw[HX.out.1.book];exact HC.out.book,by
       rw[BY,List.length_singleton,Nat.sub_add_eq];exact CK.out.1,(fun b hb=>by
       rcases AT.1 hb with hb|hb
       ·exact HC.out.keep b hb
       ·rw[By]at hb
        subst hb;exact CK.out.2),kV.trans (ah.ae dO S1),AD,(ah.ae dO []).own oR (by simp),fun g hg=>⟨(VX g hg).1,fun hs=>by have:=QG g hs;have:=(VX g hg).2;omega⟩,Vx,fun b hb=>⟨by have:=QG b hb;have:=kV.size;omega,fun hs=>by have:=QG b hb;have:=Kk.old b hs;omega⟩⟩)
     clear hwo Kk kV AD oR VX bM cd F8;go_wp2_with fail
     refine ad2.out.mono ?_;rintro e w5 ⟨f5,S5,rfl,Vx,dO,QG⟩;have XV:=sh (show ∃x f dm nn Sf lv fv S' S2,se E1 F σ1 w1 S1 k1 w5 (ch++[n]) A5 c5 f5 x f dm nn Sf lv fv S' S2 from ⟨_,_,_,_,_,_,_,_,_,WR.out f5 S5 w5 Vx dO QG⟩);have uW:(ch++[n]).length=m+1:=by rw[BY,<-vY.out];rfl
     clear Vx dO QG;go_wp2_with fail
     go_roundw
     case rel=>first|exact⟨ch++[n],A5,c5,f5,by rw[uW],rfl,rfl,by omega,sh (by rw[uW];omega),XV⟩|((repeat apply acD);exact⟨⟨ch++[n],A5,c5,f5,by rw[uW],rfl,rfl,by omega,sh (by rw[uW];omega),XV⟩,rfl⟩)
     case measure=>simp[lenOf];omega
    ·have hF:F:=by
      rcases HKP.out with h9|h9
      ·exact h9
      ·have h1:=HC.out.room.sure
       have h2:=vY.out;omega
     have Pj:=sh (show xT E F S Fo w (.returned (.int .i64 9)) w3 from .inr ⟨hF,rfl,(G.main.root:Nat),ch,S4,x,f4,CO,Je,Hc,C0,CP,by rw[<-xM.out.1];exact kK,iN.out.1.then (HC.out.off.then tE HC.out.fresh) iN.out.2,(iN.out.2.trans HC.out.fresh iN.out.1.size).trans Xi (abE iN.out.1.size HC.out.off.size)⟩);clear kK tE Xi;go_wp2_with fail
     go_ret
     exact Pj.out
   ·have z1: decide ((m:Int)<(p:Int))=false:=decide_eq_false (by omega)
    have nj:=sh (LL hC.list.fl (by omega));have Ug:=sh (show Fr.pieces (Fr.aW E1.txn x.fr (x.more E1.pc)).length<=ch.length from by rw[<-HP.out,<-vY.out];omega);have aas:ln<=512:=by rw[vX.out];omega
    obtain⟨L,hLe⟩:∃L,L=Fr.aW E1.txn x.fr (x.more E1.pc):=⟨_,rfl⟩;have Df:=sh hLe;rw[<-hLe]at Ug vX nj;have fF:Sl wr A (ints ch):=Sl.eG hC.row;have hAS:∀a,A=some a->a.block∉S':=fun a ha=>by
     obtain⟨A',c',hv,-,-,-,-,gH⟩:=cT hC.row;injection hv with Wb Bh hv3;subst Wb hv3;exact(hC.NO _ (gH a ha).2).1
    have alb:c<=9223372036854775807:=by
     obtain⟨A',c',hv,-,dC,-⟩:=cT hC.row;injection hv with Wb Bh hv3;subst hv3;unfold maxLen at dC;omega
    have Ka:=sh fF;have HAS:=sh hAS;clear hC hI hlen Xb hle kS hp rX SZ h0 hLe fF hAS Sb;have adO:=sh (show ∀W:AI,Calls prog 111 #[.int .i64 ln] W (fun e w'=>e= .returned (.int .i64 p)/\W=w') from fun W=>by rw[HP.out];have:=qS ln W (by omega);rw[vX.out]at this |-;rw[<-Df.out];exact this);go_wp2_with fail
    refine KC.out.mono ?_;rintro e w9 ⟨rfl,rfl⟩;go_wp2_with fail
    refine(adO.out _).mono ?_;rintro e w9 ⟨rfl,rfl⟩;go_wp2_with fail
    refine nj.out.mono ?_;rintro e w5 ⟨dO,Aa,ca,rfl,lQ⟩;obtain⟨r1,r2,r3,r4,r5,r6⟩:=lQ.row;have ou:=sh dO;have HRA:=sh r1;have Xh:ca<=9223372036854775807:=by unfold maxLen at r4;omega
    rw[<-vX.out]at r3 |-;have HAA:=sh (show ∀a,Aa=some a->a=⟨a.block,0,none⟩/\wr.heap.size<=a.block from fun a ha=>⟨(r5 a ha).1,(r5 a ha).2.1⟩);have HAN:=sh r6;have h50:Hid (∃tX,tX<=600/\bd E1 w5 S' (ch.drop 0) { x with ax:=iR x.ax ch L 0 } f dm tX Sf lv fv/\ah [dm] w5 w5):=⟨nn,HC.out.mem.nn,HC.out.mem.off (ah.ae dO []) (by simp),ah.refl _ _⟩;clear dO lQ r1 r2 r4 r5 r6;go_wp2_with fail
    go_loopw [63] (fun i wr=>∃j:Nat,i= .int .i64 j/\j<=m/\Hid (∃tX,tX<=600/\bd E1 wr S' (ch.drop j) { x with ax:=iR x.ax ch L j } f dm tX Sf lv fv/\ah [dm] w5 wr)) (fun i _=>m-(intOf i).toNat)
    case atStart=>exact⟨0,rfl,abc _,h50⟩
    case round=>
     obtain⟨j,rfl,hj,hI⟩:=hrel;obtain⟨n9,oh,hq,QK⟩:=hI.out;by_cases hjm:j<m
     ·have z2:decide ((j:Int)<(m:Int))=true:=decide_eq_true (by omega)
      have Qt:dm∈S':=by rw[HC.out.mem.blocks];simp[aB]
      have MH:Sl wr A (ints ch):=(Ka.out.below ou.out).off QK (fun a ha hs=>by
       rw[By]at hs;exact HAS.out a ha (by rw[hs];exact Qt))
      have Vu:j<ch.length:=by rw[<-vY.out];exact hjm
      obtain⟨cb,co,rfl,CS,fU⟩:=ints_at MH j Vu;obtain⟨n,hn⟩:∃n,n=ch[j]:=⟨_,rfl⟩;rw[<-hn]at fU;obtain⟨nx,pI⟩:∃nx,nx=ch.getD (j+1) 0:=⟨_,rfl⟩;have VJ:nx<512:=by
       rw[pI];by_cases h9:j+1<ch.length
       ·rw[acE,aaG h9]
        have h8:=HC.out.mem.ok.range.2.2.2.2.2 ch[j+1] (List.getElem_mem h9);have h7:=HC.out.mem.ok.le;have h6:=HC.out.mem.ok.lim;show ch[j+1]<512;omega
       ·rw[acE,acO (by omega)]
        show 0<512;omega
      have mY:(decide ((j:Int)+1<(m:Int))=true/\j+1<m/\wr.cell? ⟨cb,co+(j+1),none⟩=some (.int .i64 nx))\/(decide ((j:Int)+1<(m:Int))=false/\(nx:Int)=0):=by
       by_cases h9:j+1<ch.length
       ·obtain⟨cb',co',nM,-,Ve⟩:=ints_at MH (j+1) h9
        injection nM with nM;injection nM with e1 e2;subst e1 e2;refine .inl ⟨decide_eq_true (by have:=vY.out;omega),by have:=vY.out;omega,?_⟩;rw[Ve,pI,acE,aaG h9];rfl
       ·refine .inr ⟨decide_eq_false (by have:=vY.out;omega),?_⟩
        rw[pI,acE,acO (by omega)];rfl
      have yw:0<m:=by omega
      obtain⟨a,ha⟩:∃a,a=ln*j:=⟨_,rfl⟩;obtain⟨b,hb⟩:∃b,b=ln*(j+1):=⟨_,rfl⟩;have oL:a<=10000:=by
       rw[ha];have:=Nat.mul_le_mul aas (show j<=13 by omega);omega
      have Xf:b<=10000:=by
       rw[hb];have:=Nat.mul_le_mul aas (show j+1<=13 by omega);omega
      have p1:(ln:Int)*(j:Int)=(a:Int):=by rw[ha];push_cast;rfl
      have p2:(ln:Int)*((j:Int)+1)=(b:Int):=by rw[hb];push_cast;rfl
      obtain⟨fm,SK⟩:∃fm,fm=a/m:=⟨_,rfl⟩;obtain⟨tt,IV⟩:∃tt,tt=b/m:=⟨_,rfl⟩;have d1:(a:Int).tdiv (m:Int)=(fm:Int):=by rw[SK];exact(Int.ofNat_tdiv a m).symm
      have d2:(b:Int).tdiv (m:Int)=(tt:Int):=by rw[IV];exact(Int.ofNat_tdiv b m).symm
      have Vm:fm<=tt:=by rw[SK,IV,ha,hb];exact UO ln j m yw
      have O6:tt<=ln:=by rw[IV,hb];exact FQ ln j m yw hjm
      have w1':IntKind.i64.wrap (a:Int)=a:=by rw[acC];omega
      have w2':IntKind.i64.wrap (b:Int)=b:=by rw[acC];omega
      have XF:IntKind.i64.wrap (fm:Int)=fm:=by rw[acC];omega
      have w4':IntKind.i64.wrap (tt:Int)=tt:=by rw[acC];omega
      have rX:¬ (m:Int)=0:=by omega
      have z3:((m:Int)==0)=false:=by rw[beq_eq_false_iff_ne];exact rX
      have z4:(m==0)=false:=by rw[beq_eq_false_iff_ne];omega
      have htc:tt<=ca:=by omega
      have b1:(0:Int)<=(fm:Int):=by omega
      have b2:(fm:Int)<=(tt:Int):=by omega
      have b3:(tt:Int)<=(ca:Int):=by omega
      have QD:m=ch.length:=vY.out;obtain⟨pt,Xv⟩:∃pt,pt=eT L m j:=⟨_,rfl⟩;have QP:pt.length=tt-fm:=by
       rw[Xv,rk L m j yw hjm,<-vX.out,<-ha,<-hb,<-SK,<-IV]
      have aaZ:pt=(L.drop fm).take (tt-fm):=by
       rw[Xv];unfold eT;rw[<-vX.out,<-ha,<-hb,<-SK,<-IV]
      have To:pt.length<=40:=by
       rw[QP,SK,IV,ha,hb];have:=FR ln j m yw (by
        have:=m8 Ug.out;rw[<-vX.out,<-QD]at this;exact this)
       omega
      have nT:pt.Sublist L:=by rw[Xv];exact Bw L m j
      obtain⟨k1',k2',k3',-⟩:=(show Fr.Sorted L/\(Fr.pg L).Nodup/\(∀y∈L,Fr.ok y=true)/\True from by
       obtain⟨P',h1,h2,h3,h4⟩:=HC.out.mem.ok.laid E1.txn HE1.out.JO;rw[<-Df.out]at h2 h3 h4;have cg:=(aai.1 (h2.nodup_iff.2 (ku _))).1;refine⟨h3,cg,fun y hy=> ?_,trivial⟩;have h5:=eP.1 (h2.mem_iff.1 (AT.2 (.inl (List.mem_map.2 ⟨y,hy,rfl⟩))));have h6:=h4 y hy;have h7:=HC.out.mem.ok.le;have h8:=HC.out.mem.ok.lim;unfold Fr.ok;simp;omega)
      have Vl:∀W:AI,tt=fm->fX W Aa pt:=fun W he jj u hu=>by
       have:pt=[]:=abZ (by rw[QP];omega);rw[this]at hu;simp[aN]at hu
      have VY:fX wr Aa L:=HRA.out.off QK (fun a' ha' hs=>by
       rw[By]at hs;have h1:=(HAA.out a' ha').2;have h2:=HC.out.mem.old dm Qt;omega)
      have nO:∀W:AI,Below wr.heap.size wr W->fX W (Option.map (fun x=>x.add (fm*2)) Aa) pt:=fun W hW=>by
       cases hAa:Aa with
       | none=>
        have h1:=HAN.out hAa;have h2:=Vl W (by omega);rw[hAa]at h2;exact h2
       | some a'=>
        obtain⟨h1,-⟩:=HAA.out a' hAa;rw[hAa,h1]at VY;have h2:=(VY.below hW).part fm (tt-fm);rw[<-aaZ]at h2;rw[h1];show fX W (some ((⟨a'.block,0,none⟩:Addr).add (fm*2))) pt;rw[bI];exact h2
      obtain⟨sp,qo⟩:∃sp:ByteArray,sp=⟨(Fr.bytes nx pt).toArray⟩:=⟨_,rfl⟩;have ZV:∀(W:AI) (A':Option Addr) (c':Nat),fX W A' pt->Calls prog 114 #[.int .i64 (nx:Int),.slice A' (tt-fm) c'] W (fun e w'=>e= .returned (.tuple #[.string sp,.int .i64 0])/\Below W.heap.size W w'):=fun W A' c' nM=>by
       rw[<-QP];refine(zZ (c:=c') nx nM (afh nT k1') (fun y hy=>k3' y (nT.subset hy)) (List.Nodup.sublist (nT.map _) k2') To VJ).mono ?_;rintro e w' ⟨⟨s9,rfl,nS⟩,jt⟩;have:s9=sp:=by
        rw[qo,<-nS]
       rw[this];exact⟨rfl,jt⟩
      have aan:jc ch L j=⟨4,sp⟩:=by
       unfold jc;rw[qo,<-pI,<-QD,<-Xv]
      have hnj:ch.getD j 0=n:=by rw[acE,aaG Vu,hn];rfl
      have Ay:ch.drop j=n::ch.drop (j+1):=by rw[hn];exact List.drop_eq_getElem_cons Vu
      have hlD:iR x.ax ch L (j+1)=Tr.cY (iR x.ax ch L j) n (some ⟨4,sp⟩):=by
       show Tr.cY (iR x.ax ch L j) (ch.getD j 0) (some (jc ch L j))=_;rw[hnj,aan]
      have O3:=hq.ok;rw[Ay]at O3;have aa2:=O3.lay (⟨4,sp⟩:rO);have nR:=O3.range.2.2.2.2.2 n (by simp);have aaB:=O3.le;have aaC:=O3.lim;have tD:n<512:=by
       have h1:n<x.aa:=nR.2;have h2:x.aa<=E1.limit:=aaB;omega
      have HQ:=sh hq;have HOQ:=sh QK;have Py:=sh aa2;have De:=sh hlD;have Dc:=sh ZV;have HF0:=sh Vl;have WQ:=sh nO;have HDM:=sh Qt;have LV:=xM.out.2;have Yi:=sh tD;clear hq QK hI h50 MH ha hb SK IV hn pI Xv QP aaZ To nT k1' k2' k3' Vl VY nO qo ZV aan hnj Ay hlD O3 aa2 nR aaB aaC Qt LV QD tD;obtain⟨nz,VK⟩:∃nz:Int,nz=(nx:Int):=⟨_,rfl⟩;rw[<-VK]at mY Dc;rcases mY with⟨z5,z6,z7⟩|⟨z5,rfl⟩;all_goals
       clear VK;rcases Classical.em (ca=fm)with hcf0|hcf0
      all_goals
       have HCF:=sh hcf0
      all_goals
       first
        | (have hcf:(ca=fm)=True:=eq_true hcf0)
        | (have hcf:(ca=fm)=False:=eq_false hcf0)
      all_goals
       clear hcf0
      all_goals
       go_wp2_with fail
       go_quiet (fail)
       go_wp2_with fail
      all_goals
       refine(Dc.out _ _ _ (by first|exact WQ.out _ (below_drewN (IN _ wr) _)|exact HF0.out _ (by have:=HCF.out;omega))).mono ?_;rintro e w8 ⟨rfl,vj⟩;have U6:Below wr.heap.size wr w8:=(below_drewN (IN _ wr) _).trans (vj.mono (by simp));have Vy:=HQ.out.off (ah.ae U6 []) (by simp);obtain⟨w9,aiz,aac,hg9⟩:=(Vy.map.off ((ah.refl [] w8).drew) (by simp)).update underlying3 underlying100 (by have:=Vy.nn;unfold maxLen;omega) (i:=(n:Int)) (CD (by omega) (by have:=Yi.out;omega)) (.agg #[.int .i64 4,.int .i64 n,.int .i64 E1.txn,.string sp]);have q81:w8.cell? ⟨E.t,1,none⟩=some (.int .i64 E1.txn):=by rw[<-xM.out.2];exact Vy.cells.cell 1
       have q88:w8.cell? ⟨E.t,8,none⟩=some (.map (some dm)):=by rw[<-xM.out.2];exact Vy.cells.cell 8
       have lt8:E.t<w8.heap.size:=by rw[<-xM.out.2];exact Vy.cells.lt
       have Gd:ah [dm] w8 w9:=(ah.refl [dm] w8).drew.grown hg9 (fun g hg=> .inl (by simp at hg;simp[hg]));have SO:IMap prog 3 w9 dm (n9+1) (dI E1.txn (Tr.cY (iR x.ax ch L j) n (some ⟨4,sp⟩))):=by
        rw[<-nC];exact aac
       obtain⟨nn2,jv,SP⟩:=SO.oG (fun m hm=>by have:=Py.out.range.2.1 m hm;have:=Py.out.le;have:=Py.out.lim;omega);have rX:=Vy.mapped SP jv Gd Py.out;have HI9:=sh (show ∃tX,tX<=600/\bd E1 w9 S' (ch.drop (j+1)) { x with ax:=iR x.ax ch L (j+1) } f dm tX Sf lv fv/\ah [dm] _ w9 from ⟨nn2,jv,by rw[De.out];exact rX,(HOQ.out.trans (ah.ae U6 [dm])).trans Gd⟩);clear vj U6 Vy aac hg9 Gd SO SP rX;go_wp2_with fail
       go_region_with (fail)
       all_goals
        go_wp2_with fail
        go_roundw
        case rel=>first|exact⟨j+1,by go_num,by omega,HI9⟩|((repeat apply acD);exact⟨⟨j+1,by go_num,by omega,HI9⟩,rfl⟩)
        case measure=>simp[intOf];omega
     ·have z2: decide ((j:Int)<(m:Int))=false:=decide_eq_false (by omega)
      have aaj:j=ch.length:=by rw[<-vY.out];omega
      have QD:m=ch.length:=vY.out;have LV:=xM.out.2;have qZ:Bk wr E.t 103 (aT E1 { x with ax:=iR x.ax ch L j } f dm lv fv):=by rw[<-LV];exact hq.cells
      have bV:=sh (show ∀W',Bk W' E.t 103 (aT { E1 with yk:=(ch.headD 0:Nat) } ⟨x.aa,L,iR x.ax ch L j,ch,[]⟩ f3 dm (.slice A m c) (.slice none 0 0))->ah [E.t] wr W'->xT E F S Fo w (.returned (.int .i64 0)) W' from fun W' aU ho=>by
       subst aaj;obtain⟨vZ,t1,t2,t3⟩:=HC.out.list.tight;rw[<-Df.out]at t3;have vA:E.t∈S':=by rw[<-LV,HC.out.mem.blocks];simp[aB]
       have SH:dm∈S':=by rw[HC.out.mem.blocks];simp[aB]
       have Tc:∀b∈vZ,b∉S':=fun b hb=>(HC.out.new b (t2 b hb)).2;have sw:∀g,aaU (.slice A m c)=some g->g∉S'/\g∉vZ/\w1.heap.size<=g:=fun g hg=>by
        rw[QD]at hg;exact⟨(HC.out.NO g hg).1,fun hs=>(HC.out.NO g hg).2 (t2 g hs),(abr HC.out.row g hg).1⟩
       have CU:rK W' f3 vZ L:=((t3.below ou.out).off QK (fun b hb hs=>by rw[By]at hs;subst hs;exact Tc _ hb SH)).off ho (fun b hb hs=>by rw[By]at hs;subst hs;exact Tc _ hb vA);have bc:W'.ownsRow 0 3 1 (.slice A m c) ch.length (ints ch):=by
        have h1:=HC.out.row;rw[<-QD]at h1 |-;have h2:=(ah.ae ou.out []).own h1 (by simp);have h3:=QK.own h2 (fun g hg hs=>by rw[By]at hs;subst hs;exact(sw _ hg).1 SH);have h4:=ho.own h3 (fun g hg hs=>by rw[By]at hs;subst hs;exact(sw _ hg).1 vA);exact l7 h4 (abc _)
       have cg:=hq.nodup;unfold aB at cg;obtain⟨n1,n2⟩:=abN.1 cg;obtain⟨n3,-⟩:=abN.1 n2;have htd:E1.t≠dm:=fun e=>n1 (by rw[e];simp);have bm:∀b∈E1.still,b∉[E.t]:=fun b hb hs=>by
        rw[By]at hs;subst hs;exact hq.apart E.t (by rw[<-LV];simp[aB]) hb
       have V6:∀b∈E1.still,b∈S':=fun b hb=>by rw[HC.out.mem.blocks];exact AT.2 (.inr hb)
       have vq:∀b,b∈aB E.t f3 dm vZ (.slice A m c) (.slice none 0 0)↔b=E.t\/b=dm\/aaU (.slice A m c)=some b\/b∈vZ:=fun b=>by
        unfold aB;simp only[IT,AT,abz];have:(acf none 0 0).ownBlock=none:=rfl;rw[this];simp
       obtain⟨p1,p2,p3,p4,p5,p6,p7⟩:=Ew HC.out.mem.ok HE1.out.JO HG.out.2.2.2 HC.out.book Df.out Ug.out;have hle:=HC.out.mem.ok.le;have eW:=HC.out.mem.ok.one;have afD:ah S1 w1 W':=((HC.out.off.trans (ah.ae ou.out S1)).then QK (fun b hb=>by
        rw[By]at hb;subst hb;exact HC.out.fresh b SH)).then ho (fun b hb=>by
        rw[By]at hb;subst hb;exact HC.out.fresh _ vA)
       have vn:aj w S S':=iN.out.2.trans HC.out.fresh iN.out.1.size;refine .inl ⟨rfl,G,σ1,x.aa,L,iR x.ax ch L ch.length,ch,f3,dm,n9,vZ,.slice A m c,aB E.t f3 dm vZ (.slice A m c) (.slice none 0 0)++E1.still,?_⟩;obtain⟨rT,-⟩:=xM.out;subst rT;refine⟨HG.out.1,HG.out.2.1,HG.out.2.2.1,HG.out.2.2.2,⟨aU,CU,hq.map.off ho (by simp[Ne.symm htd]),oh,bc,ho.bk hq.db (bm _ (by simp[Kv.still])),ho.bk hq.rd (bm _ (by simp[Kv.still])),hq.pg.off ho (fun b hb=>bm b (by simp[Kv.still,hb])),hq.dev.off ho (fun b hb=>bm b (by simp[Kv.still,hb])),hq.row.off ho (bm _ (by simp[Kv.still])),rfl,?_,fun b hb hs=> ?_⟩,
        iN.out.1.then afD iN.out.2,fun b hb=> ?_,⟨eW,hle⟩,p1,p2,p3,fun n hn=>p4 n hn,p5,p6,p7,?_,?_,?_,hFW.out⟩
       ·unfold aB
        refine abN.2 ⟨fun hm=> ?_,abN.2 ⟨fun hm=> ?_,?_⟩⟩
        ·rcases IT.1 hm with hm|hm
         ·exact htd hm
         ·have:=(vq E.t).1 (ace _ (ace _ hm))
          rcases AT.1 hm with hm|hm
          ·rw[abz]at hm;exact(sw _ hm).1 vA
          ·rcases AT.1 hm with hm|hm
           ·rw[show (acf none 0 0).ownBlock=none from rfl]at hm;cases hm
           ·exact Tc _ hm vA
        ·rcases AT.1 hm with hm|hm
         ·rw[abz]at hm;exact(sw _ hm).1 SH
         ·rcases AT.1 hm with hm|hm
          ·rw[show (acf none 0 0).ownBlock=none from rfl]at hm;cases hm
          ·exact Tc _ hm SH
        ·rw[show (acf none 0 0).ownBlock=none from rfl]
         refine aai.2 ⟨?_,t1,fun a ha b hb e=> ?_⟩
         ·cases aaU (.slice A m c)<;>simp
         ·rw[abz]at ha
          subst e;exact(sw _ ha).2.1 hb
       ·rcases(vq b).1 hb with rfl|rfl|hb|hb
        ·exact bm _ hs (by simp)
        ·exact hq.apart b (by simp[aB]) hs
        ·exact(sw b hb).1 (V6 b hs)
        ·exact Tc b hb (V6 b hs)
       ·rcases AT.1 hb with hb|hb
        ·rcases(vq b).1 hb with rfl|rfl|hb|hb
         ·exact vn _ vA
         ·exact vn _ SH
         ·exact .inr (abE iN.out.1.size (sw b hb).2.2)
         ·exact .inr (abE iN.out.1.size (HC.out.new b (t2 b hb)).1)
        ·exact vn b (V6 b hb)
       ·intro y hy
        rw[Df.out]at hy;exact Fr.sQ (Q:=fun y=>y.1<=E.txn) (fun n=>AS _) _ _ (fun y hy=>Nat.le_of_lt (HC.out.room.eQ y hy)) y hy
       ·intro b hb hk
        by_cases hc:b∈ch
        ·exact HC.out.keep b hc hk
        ·rw[nV _ _ _ _ _ (by rw[acB];exact hc) (AS _)]at hb
         exact HC.out.room.jR b (.inr hb) hk
       ·rcases HC.out.room.base with hb|⟨hb,-⟩
        ·exact .inl hb
        ·refine .inr (abE hb ?_)
         rw[Df.out,show ((Fr.aW E.txn x.fr (x.more E.pc)).filter fun y=>decide (y.1<E.txn)).length=(x.fr.filter fun y=>decide (y.1<E.txn)).length from Fr.sR _ _,List.filter_eq_self.2 (fun y hy=>by simpa using HC.out.room.eQ y hy)];exact AS _)
      have y4:=qZ.cell 4;have f4:=qZ.frozen 4;have y7:=qZ.cell 7;have f7:=qZ.frozen 7;have y9:=qZ.cell 9;have f9:=qZ.frozen 9;have y10:=qZ.cell 10;have f10:=qZ.frozen 10;have ltw:=qZ.lt;have xQ:=sh qZ;have Qx:∀(l:List Nat) (h:0<l.length),l.headD 0=l[0]:=fun l h=>by
       cases l with
       | nil=>simp at h
       | cons a t=>rfl
      have qU:(decide ((0:Int)<(m:Int))=false/\decide (0<m)=false/\Hid (ch.headD 0=0))\/(decide ((0:Int)<(m:Int))=true/\0<m/\∃cb co,A=some ⟨cb,co,none⟩/\cb<wr.heap.size/\cb≠E.t/\wr.cell? ⟨cb,co,none⟩=some (.int .i64 (ch.headD 0:Nat))):=by
       by_cases yw:0<m
       ·have MH:Sl wr A (ints ch):=(Ka.out.below ou.out).off QK (fun a ha hs=>by
         rw[By]at hs;exact HAS.out a ha (by rw[hs,HC.out.mem.blocks];simp[aB]))
        obtain⟨cb,co,hA,CS,fU⟩:=ints_at MH 0 (by omega);refine .inr ⟨decide_eq_true (by omega),yw,cb,co,hA,CS,fun e=> ?_,?_⟩
        ·have:=HAS.out _ hA
         exact this (by rw[HC.out.mem.blocks,show (⟨cb,co,none⟩:Addr).block=cb from rfl,e,<-LV];simp[aB])
        ·rw[Nat.add_zero]at fU
         rw[fU,Qx ch (by omega)]
       ·refine .inl ⟨decide_eq_false (by omega),decide_eq_false (by omega),sh ?_⟩
        have:ch=[]:=abZ (by omega);rw[this];rfl
      obtain⟨hz,hhz⟩:∃hz:Int,hz=(ch.headD 0:Nat):=⟨_,rfl⟩;rw[<-hhz]at qU bV;have HHZ:=sh hhz;clear hq QK hI h50 qZ QD aaj LV hhz Qx;rcases qU with⟨z5,z5',z6⟩|⟨z5,z6,cb,co,rfl,z7,z8,z9⟩
      ·have Eo:hz=0:=by rw[HHZ.out,z6.out];rfl
       subst Eo;clear z6;go_wp2_with fail
       go_ret
       refine bV.out _ ?_ ?_
       ·exact((((xQ.out.put 4 (.int .i64 0)).put 7 (.pointer (some ⟨f3,0,none⟩))).put 10 (.slice none 0 0)).put 9 (.slice A m c))
       ·exact((((ah.refl [E.t] wr).setCell (.inl (by simp)) _).setCell (.inl (by simp)) _).setCell (.inl (by simp)) _).setCell (.inl (by simp)) _
      ·go_wp2_with fail
       go_ret
       refine bV.out _ ?_ ?_
       ·first
         | exact(((((xQ.out.put 4 (.int .i64 0)).put 4 (.int .i64 hz)).put 7 (.pointer (some ⟨f3,0,none⟩))).put 10 (.slice none 0 0)).put 9 (.slice (some ⟨cb,co,none⟩) m c))
         | exact((((xQ.out.put 4 (.int .i64 hz)).put 7 (.pointer (some ⟨f3,0,none⟩))).put 10 (.slice none 0 0)).put 9 (.slice (some ⟨cb,co,none⟩) m c))
       ·first
         | exact(((((ah.refl [E.t] wr).setCell (.inl (by simp)) _).setCell (.inl (by simp)) _).setCell (.inl (by simp)) _).setCell (.inl (by simp)) _).setCell (.inl (by simp)) _
         | exact((((ah.refl [E.t] wr).setCell (.inl (by simp)) _).setCell (.inl (by simp)) _).setCell (.inl (by simp)) _).setCell (.inl (by simp)) _
 ·have Pj:=sh (show xT E F S Fo w (.returned (.int .i64 9)) w1 from by
   obtain⟨x,f,dm,nn,Sf,lv,fv,hm,-,-⟩:=cL;exact .inr ⟨hF,rfl,r,[],S1,x,f,dm,nn,Sf,lv,fv,hm,vu,nO⟩)
  clear cL vu nO;go_wp2_with fail
  go_ret
  exact Pj.out
end Go.Proofs.YtjbcbnemdhbhbaaGreatDoor
