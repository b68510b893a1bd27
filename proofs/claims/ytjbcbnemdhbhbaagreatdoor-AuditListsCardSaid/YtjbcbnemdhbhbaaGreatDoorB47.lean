import Derived.Test.YtjbcbnemdhbhbaaGreatDoorB43
import Derived.Test.YtjbcbnemdhbhbaaGreatDoorB39
import Derived.Test.YtjbcbnemdhbhbaaGreatDoorB46
import Derived.Test.YtjbcbnemdhbhbaaGreatDoorB33
import Derived.Test.YtjbcbnemdhbhbaaGreatDoorB32
import Derived.Test.YtjbcbnemdhbhbaaGreatDoorB44
set_option maxRecDepth 100000
set_option linter.unusedVariables false
set_option linter.unusedSimpArgs false
set_option maxHeartbeats 40000000
open Go renaming Calls→aag,Value→IS,World→AI
open Go.Lib renaming hid→sh
open Go.RowKit renaming Below→No
open Go.World.ownsRow renaming lt→abr
open List renaming filter_cons_of_neg→adF,filter_cons_of_pos→afN,length_append→BY,length_cons→abB,length_map→aae,mem_append→AT,mem_cons→IT,nodup_append→aai,nodup_nil→afL
open List.Pairwise renaming nil→aft
open Nat renaming le_refl→AS,le_trans→abE,zero_le→abc
namespace Go.Proofs.YtjbcbnemdhbhbaaGreatDoor
open Go.Proofs.Tryz
open Go.RowKit
def Forest.zero:Forest:=⟨Tn.zero,fun _=>none,fun _=>Tn.zero,[]⟩
theorem Forest.RO:Forest.zero.Ok (fun _=>none) where
 main:= .inl ⟨rfl,rfl,rfl⟩
 each:=fun n=> .inl ⟨rfl,rfl,rfl⟩
 out:=fun n _=>rfl
 nodup:=afL
 full:=fun n h=>absurd rfl h
 names:=fun e he=>(by cases he)
 law:=fun n r h=>(by cases h)
 yD:=fun n _=> .inr ⟨fun e he=>(by cases he),rfl⟩
 nd:=afL
 valid:=fun n h=>(by cases h)
def pd (b q r f g:Nat) (Sf:List Nat) (limit:Nat):Di:=⟨b,q,r,f,g,[q],Sf,qR limit,St.empty,[],.slice none 0 0,[],.pointer none⟩
theorem Ij{limit:Nat}(h:4<=limit/\limit<=512):vV (cn (4*limit) limit) (qR limit) [] [] (fun _=>none) Forest.zero 1 1 limit:=
 ⟨⟨rfl,rfl⟩,rfl,rfl,(by simp[cn]),h,AS _,(by show (3:Int)<=3000*((1:Nat):Int);omega),(by show ([]:List Int).length<=_;simp),Forest.RO,fun _=>rfl,fun n p h=>(by cases h),⟨AS _,(by omega)⟩,(by decide),aft,fun y hy=>(by cases hy),abc _⟩
theorem uO.off{E:Kv}{F:Prop}{w w':AI}{S U:List Nat}{σ :ag}{k nr:Nat}{Fo:Forest}(h:uO E F w S σ k Fo nr)(ho:ah U w w')(hU:∀b∈E.rm::S,b∉U)(hc:∀g,E.c3.ownBlock=some g->g∉U):uO E F w' S σ k Fo nr:=by
 obtain⟨x,f,dm,nn,Sf,lv,fv,hm,h1,h2⟩:=h.wr.at_;obtain⟨n0,h3,h4⟩:=h.wr.roots;exact⟨⟨⟨x,f,dm,nn,Sf,lv,fv,hm.off ho (fun b hb=>hU b (List.mem_cons_of_mem _ hb)),h1,h2⟩,⟨n0,h3,h4.off ho (hU _ (by simp))⟩,h.wr.rm,h.wr.ok,h.wr.root,h.wr.open_,h.wr.first⟩,h.ok,h.sep,h.pY,h.on,ho.own h.pv hc,h.NL,h.c4⟩
theorem fy.off{w w':AI}{d:Di}{Sd U:List Nat}{D:DevS}{σ :ag}{Fo:Forest}{txn aa limit:Nat}(h:fy w d Sd D σ Fo txn aa limit)(ho:ah U w w')(hU:∀x∈0::(d.blocks++Sd),x∉U)(ht:∀t,d.wv= .pointer (some ⟨t,0,none⟩)->t∉U):fy w' d Sd D σ Fo txn aa limit:=by
 refine⟨h.db.off ho (fun x hx=>hU x (by simp[hx])),h.dev.off ho (fun x hx=>hU x (by simp[hx])),h.row.off ho (hU _ (by simp)),h.plain,h.ap,h.pv,?_⟩;rcases h.wv with h1|⟨t,cs,h1,h2,h3⟩
 ·exact .inl h1
 ·exact .inr ⟨t,cs,h1,ho.bk h2 (ht t h1),h3⟩
theorem fy.below{w w':AI}{d:Di}{Sd:List Nat}{D:DevS}{σ :ag}{Fo:Forest}{txn aa limit:Nat}(h:fy w d Sd D σ Fo txn aa limit)(hb:No w.heap.size w w'):fy w' d Sd D σ Fo txn aa limit:=h.off (ah.ae hb []) (by simp) (by simp)
theorem uO.below{E:Kv}{w w':AI}{S:List Nat}{σ :ag}{k nr:Nat}{Fo:Forest}(h:uO E False w S σ k Fo nr)(hb:No w.heap.size w w'):uO E False w' S σ k Fo nr:=h.off (ah.ae hb []) (by simp) (by simp)
structure YV (E:Kv) (S:List Nat) (σ :ag) (k c:Nat) (Fo:Forest) (nr:Nat) (name key val:ByteArray) (w w':AI) (y:En) (t:Tn) (σ':ag) (S':List Nat) (k':Nat):Prop where
 kk:y.cell.key=key
 vv:y.val=val.data.toList
 pp:y.aa.length=Tr.pieces val.size
 L:t.L=Tr.dL key y (Fo.tr name).L
 mv:Tr.aE 2 σ (Fo.tr name).P σ' t.P
 st:uO E False w' S' σ' k' (Fo.put name t) (nr+1)
 sure:k<=k'+(c+Tr.pieces val.size)
 off:ah (E.rm::S) w w'
 fresh:aj w S S'
theorem RL{E:Kv}{w:AI}{S:List Nat}{σ :ag}{k nr:Nat}{Fo:Forest}(h:uO E False w S σ k Fo nr)(nR:nr<=100000)(name key val:ByteArray)(hn:eg name)(dw:1<=key.size)(bO:key.size<=120)(hv:val.size<=4000)
  {c:Nat} (QS:Tr.fa σ c (Fo.tr name).root (Fo.tr name).P (Fo.tr name).L) (hk:c+Tr.pieces val.size<=k):
  aag prog 12 #[.pointer (some ⟨E.t,0,none⟩),.string name,.string key,.string val] w (fun e w'=>e= .returned (.int .i64 0)/\∃y t σ' S' k',YV E S σ k c Fo nr name key val w w' y t σ' S' k'):=by
 refine(Om h.ok h.wr nR name key val hn dw bO hv QS (.inr hk)).mono ?_;rintro e w' (⟨rfl,y,t,σ',S',k',h1,h2,pJ,h3,nQ,h4,h5,h6,h7⟩|⟨hF,-⟩)
 ·have Vg:∀g,E.c3.ownBlock=some g->g<w.heap.size:=fun g hg=>(abr h.pv g hg).2
  refine⟨rfl,y,t,σ',S',k',h1,h2,pJ,h3,nQ,⟨h4,h.ok,h.sep,h.pY,h.on,h6.own h.pv (fun g hg hm=> ?_),fun g hg=>⟨fun hm=> ?_,(h.NL g hg).2⟩,h.c4⟩,h5,h6,h7⟩
  ·rcases IT.1 hm with hm|hm
   ·exact(h.NL g hg).2 hm
   ·exact(h.NL g hg).1 hm
  ·rcases h7 g hm with hm|hm
   ·exact(h.NL g hg).1 hm
   ·have:=Vg g hg;omega
 ·exact hF.elim
theorem nG{α :Type}(p: α ->Bool):∀(l:List α),(l.filter p).length+(l.filter fun x=> !p x).length=l.length
 | []=>rfl
 | a::l=>by
  have:=nG p l;cases h:p a
  ·rw[adF (by simp[h]),afN (by simp[h]),abB,abB];omega
  ·rw[afN h,adF (by simp[h]),abB,abB];omega
theorem BJ(e:Nat):(iS e).length=e-1:=by unfold iS;rw[aae,List.length_range]
theorem Tx.Ok.abG{x:Tx}{limit:Nat}{D:ag}{U pc:List Nat}(h:x.Ok limit D U pc [])(u:Nat):∃dk:List Nat,dk.Nodup/\(∀n∈dk,x.book D U n≠none/\n∉U)/\
  x.rest limit+x.loose.length+dk.length+U.length+pc.length+1=limit/\x.sure limit u+(x.fr.filter fun y=>decide (u<y.1)).length=x.rest limit+x.loose.length:=by
 obtain⟨dk,h1,h2⟩:=h.perm;have hn:=h.nodup h2;have hl:=h2.length_eq;rw[BJ]at hl;simp only[BY,Fr.pg,aae,List.length_nil]at hl;have h3:=h.one;have h4:=h.le;refine⟨dk,(aai.1 (aai.1 hn).2.1).1,fun n oh=> ?_,?_,?_⟩
 ·have hd:=(h1 n).1 oh
  refine⟨?_,h.apart hd⟩;unfold Tx.book;cases hx:x.ax n with
  | none=>exact absurd hx hd
  | some p=>simp
 ·unfold Tx.rest
  omega
 ·unfold Tx.sure Tx.rest
  rw[Fr.Cq x.fr h.sorted];have h5:=nG (fun y:Nat×Nat=>decide (y.1<u+1)) x.fr;have h6:(x.fr.filter fun y=> !decide (y.1<u+1))=x.fr.filter fun y=>decide (u<y.1):=by
   congr 1
   funext y
   by_cases hy:y.1<u+1
   ·rw[decide_eq_true hy,decide_eq_false (by omega)];rfl
   ·rw[decide_eq_false hy,decide_eq_true (by omega)];rfl
  rw[h6]at h5;omega
def Kv.kH (E:Kv) (b:Nat):Kv:={ E with base:=b }
theorem bd.kH{E:Kv}{w:AI}{S hd:List Nat}{x:Tx}{f dm nn:Nat}{Sf:List Nat}{lv fv:IS}(h:bd E w S hd x f dm nn Sf lv fv)(b:Nat):bd (E.kH b) w S hd x f dm nn Sf lv fv:=
 ⟨h.cells,h.free,h.map,h.nn,h.loose,h.aM,h.db,h.rd,h.pg,h.dev,h.row,h.ok,h.blocks,h.nodup,h.apart⟩
theorem uO.EX{E:Kv}{w:AI}{S:List Nat}{σ :ag}{k nr:Nat}{Fo:Forest}(h:uO E False w S σ k Fo nr){Dk b k':Nat}(hd:∀dk:List Nat,dk.Nodup->(∀n∈dk,σ n≠none/\n∉E.U)->dk.length<=Dk)(hb:b<=E.base)(h1:k'+Dk+E.U.length+E.pc.length+E.held+1<=E.limit)(h2:b+k'+Dk+E.U.length+E.pc.length+1<=E.limit):
  uO (E.kH b) False w S σ k' Fo nr:=by
 obtain⟨x,f,dm,nn,Sf,lv,fv,hm,hσ,hk⟩:=h.wr.at_;obtain⟨dk,d1,d2,d3,d4⟩:=hm.ok.abG E.upto.toNat;have d5:=hd dk d1 (fun n hn=>by rw[hσ];exact d2 n hn);have d6:=hk.held;have d7:=hk.base.resolve_left id;have aa6:Room (E.kH b) False k' x:=⟨by show k'<=x.sure E.limit E.upto.toNat;omega,hk.eQ,.inr (by show b<=x.rest E.limit/\b+k'<=x.rest E.limit+x.loose.length;omega),hk.m5,hk.jR,hk.m6,hk.held⟩;exact⟨⟨⟨x,f,dm,nn,Sf,lv,fv,hm.kH b,hσ,aa6⟩,h.wr.roots,h.wr.rm,h.wr.ok,h.wr.root,h.wr.open_,h.wr.first⟩,⟨h.ok.txn,h.ok.JO,h.ok.on,h.ok.steps,h.ok.lim,h.ok.yI,h.ok.upto⟩,⟨h.sep.t,h.sep.s,h.sep.ap⟩,⟨h.pY.calm,h.pY.bC,h.pY.sec,h.pY.lim,h.pY.t,h.pY.txn,h.pY.steps,h.pY.log,h.pY.l⟩,h.on,h.pv,h.NL,h.c4⟩
structure Sr (E:Kv) (σ :ag) (Fo:Forest) (P V n a d v:Nat):Prop where
 limit:E.limit=200
 two:Fo.Dt
 ns:n<=P
 uP:Ph σ E.U Fo (a+d) v
 size:Fo.size+d<=n+a
 mj:Fo.mj<=V+v
 u:E.U.length<=1+2*n+V
 pc:E.pc.length<=5
 sure:180+n+E.U.length+E.pc.length+E.held<=199+4*P+V
 base:E.base+E.U.length+E.pc.length+(n+3*a+d+v+13)=199
def jF (P V:Nat):Prop:=P<=30/\P+V<=60
theorem Sr.ax{E:Kv}{σ :ag}{Fo:Forest}{P V n a d v:Nat}(h:Sr E σ Fo P V n a d v)(ho:Fo.Ok σ):∀dk:List Nat,dk.Nodup->(∀n∈dk,σ n≠none/\n∉E.U)->dk.length<=min (2*(a+d)+Fo.size+v) (2*Fo.size+v):=fun dk h1 h2=>by
 obtain⟨h3,h4⟩:=h.uP.ax ho h.two h1 h2;omega
theorem GQ{Fo:Forest}{σ :ag}(ho:Fo.Ok σ){name:ByteArray}(hn:name=eE\/name=eI)(hs:Fo.size<=31):Tr.fa σ 12 (Fo.tr name).root (Fo.tr name).P (Fo.tr name).L:=by
 refine(ho.each name).UN ?_;unfold Forest.size at hs;rcases hn with rfl|rfl<;>omega
theorem Forest.size_put{Fo:Forest}{name:ByteArray}(hn:name=eE\/name=eI)(t:Tn):(Fo.put name t).size+(Fo.tr name).L.length=Fo.size+t.L.length/\(Fo.put name t).mj+((Fo.tr name).L.flatMap (·.aa)).length=Fo.mj+(t.L.flatMap (·.aa)).length:=by
 unfold Forest.size Forest.mj;simp only[Forest.ud];rcases hn with rfl|rfl
 ·rw[if_pos rfl,if_neg (fun e=>ej e.symm)];omega
 ·rw[if_pos rfl,if_neg ej];omega
theorem RE{E:Kv}{w:AI}{S:List Nat}{σ :ag}{k nr:Nat}{Fo:Forest}{P V n a d v:Nat}(h:uO E False w S σ k Fo nr)(hr:Sr E σ Fo P V n a d v)(nR:nr<=100000)(name key val:ByteArray)(hn:name=eE\/name=eI)(dw:1<=key.size)(bO:key.size<=120)(hv:val.size<=1200)(hf:jF (P+a+1) (V+v+Tr.pieces val.size)):
  aag prog 12 #[.pointer (some ⟨E.t,0,none⟩),.string name,.string key,.string val] w (fun e w'=>e= .returned (.int .i64 0)/\∃y t σ' S' k' b,uO (E.kH b) False w' S' σ' k' (Fo.put name t) (nr+1)/\Sr (E.kH b) σ' (Fo.put name t) P V n (a+1) d (v+Tr.pieces val.size)/\
   y.cell.key=key/\y.val=val.data.toList/\t.L=Tr.dL key y (Fo.tr name).L/\ah (E.rm::S) w w'/\aj w S S'):=by
 obtain⟨f1,f2⟩:=hf;have ho:=h.wr.ok;have g1:=hr.size;have g2:=hr.ns;have g3:=hr.u;have g4:=hr.pc;have g5:=hr.sure;have g6:=hr.base;have oN:eg name:=by rcases hn with rfl|rfl;exact zF;exact zG
 obtain⟨b,hb⟩:∃b,b=E.base-(3+Tr.pieces val.size):=⟨_,rfl⟩;have aeN:3+Tr.pieces val.size<=E.base:=by omega
 have h2:=h.EX (b:=b) (k':=12+Tr.pieces val.size) (hr.ax ho) (by omega) (by rw[hr.limit];omega) (by rw[hr.limit];omega);refine(RL h2 nR name key val oN dw bO (by omega) (GQ ho hn (by omega)) (AS _)).mono ?_;rintro e w' ⟨rfl,y,t,σ',S',k',hp⟩;obtain⟨s1,s2⟩:=Forest.size_put (Fo:=Fo) hn t;have s3:=Tr.BX key y (Fo.tr name).L;have s4:=Tr.Jr key y (Fo.tr name).L;rw[<-hp.L]at s3 s4;have s5:=hp.pp;refine⟨rfl,y,t,σ',S',k',b,hp.st,⟨hr.limit,hr.two.put hn t,g2,?_,by omega,by have:=hr.mj;omega,g3,g4,g5,?_⟩,hp.kk,hp.vv,hp.L,hp.off,hp.fresh⟩
 ·have hc:=hr.uP.put ho hp.mv (Y:=y.aa) (fun e he=>by
   rw[hp.L]at he;rcases Tr.NJ key y _ e he with rfl|he
   ·exact .inl fun n hn=>hn
   ·exact .inr he)
  rw[hp.pp]at hc;rw[show a+1+d=a+d+1 by omega];exact hc
 ·show b+E.U.length+E.pc.length+(n+3*(a+1)+d+(v+Tr.pieces val.size)+13)=199
  omega
def UB (E:Kv) (S:List Nat) (σ :ag) (Fo:Forest) (nr P V n a d v:Nat) (name key:ByteArray) (w:AI) (ok:Bool) (w':AI):Prop:=
 (∃t σ' S' k' b,ok=true/\uO (E.kH b) False w' S' σ' k' (Fo.put name t) (nr+1)/\Sr (E.kH b) σ' (Fo.put name t) P V n a (d+1) v/\t.L=Tr.eL key (Fo.tr name).L/\ah (E.rm::S) w w'/\aj w S S')\/
 (ok=false/\(∀x∈(Fo.tr name).L,x.cell.key≠key)/\No w.heap.size w w')
theorem RD{E:Kv}{w:AI}{S:List Nat}{σ :ag}{k nr:Nat}{Fo:Forest}{P V n a d v:Nat}(h:uO E False w S σ k Fo nr)(hr:Sr E σ Fo P V n a d v)(nR:nr<=100000)(name key:ByteArray)(hn:name=eE\/name=eI)(hf:jF (P+a) (V+v)):
  aag prog 81 #[.pointer (some ⟨E.t,0,none⟩),.string name,.string key] w (fun e w'=>∃ok,e= .returned (.tuple #[.bool ok,.int .i64 0])/\Hid (UB E S σ Fo nr P V n a d v name key w ok w')):=by
 obtain⟨f1,f2⟩:=hf;have ho:=h.wr.ok;have g1:=hr.size;have g2:=hr.ns;have g3:=hr.u;have g4:=hr.pc;have g5:=hr.sure;have g6:=hr.base;have oN:eg name:=by rcases hn with rfl|rfl;exact zF;exact zG
 obtain⟨b,hb⟩:∃b,b=E.base-1:=⟨_,rfl⟩;have aeN:1<=E.base:=by omega
 have h2:=h.EX (b:=b) (k':=12) (hr.ax ho) (by omega) (by rw[hr.limit];omega) (by rw[hr.limit];omega);refine(Oj h2.ok h2.wr nR name key oN (GQ ho hn (by omega)) (.inr (AS _))).mono ?_;rintro e w' (⟨rfl,hx,t,σ',S',k',hL,jE,hw,ko,bS,bZ⟩|⟨rfl,iP,yo⟩|⟨hF,-⟩)
 ·obtain⟨s1,s2⟩:=Forest.size_put (Fo:=Fo) hn t
  have s3:=Tr.Ht (ho.each name).rising hx;have s4:=Tr.Hu key (Fo.tr name).L;rw[<-hL]at s3 s4;have Vg:∀g,E.c3.ownBlock=some g->g<w.heap.size:=fun g hg=>(abr h.pv g hg).2;refine⟨true,rfl,sh (.inl ⟨t,σ',S',k',b,rfl,⟨hw,h2.ok,h2.sep,h2.pY,h2.on,bS.own h2.pv (fun g hg hm=> ?_),fun g hg=>⟨fun hm=> ?_,(h2.NL g hg).2⟩,h2.c4⟩,⟨hr.limit,hr.two.put hn t,g2,?_,by omega,by have:=hr.mj;omega,g3,g4,g5,?_⟩,hL,bS,bZ⟩)⟩
  ·rcases IT.1 hm with hm|hm
   ·exact(h2.NL g hg).2 hm
   ·exact(h2.NL g hg).1 hm
  ·rcases bZ g hm with hm|hm
   ·exact(h2.NL g hg).1 hm
   ·have:=Vg g hg;omega
  ·have hc:=hr.uP.put ho jE (Y:=[]) (fun e he=>by
    rw[hL]at he;exact .inr ((Tr.oF (ho.each name).rising e).1 he).1)
   rw[show a+(d+1)=a+d+1 by omega];exact hc
  ·show b+E.U.length+E.pc.length+(n+3*a+(d+1)+v+13)=199
   omega
 ·exact⟨false,rfl,sh (.inr ⟨rfl,iP,yo⟩)⟩
 ·exact hF.elim
structure RQ (d:Di) (D:DevS) (σ :ag) (Fo:Forest) (txn aa P V:Nat):Prop where
 two:Fo.Dt
 size:Fo.size<=P
 mj:Fo.mj<=V
 free:180+Fo.size<=(d.fr.filter fun y=>decide (y.1<txn)).length+(200-aa)+4*P+V
theorem yH(t:Int):St.empty.dh t=t:=by simp[St.dh,St.liveK,St.live,St.empty,Oa,oldestOf]
theorem Jx{w:AI}{d:Di}{Sd:List Nat}{D:DevS}{σ :ag}{Fo:Forest}{txn aa P V:Nat}(h:fy w d Sd D σ Fo txn aa 200)(hs:d.s=St.empty)(ht:txn<=1000)(hF:RQ d D σ Fo txn aa P V)(hf:jF P V):
  aag prog 11 #[.pointer (some ⟨d.b,0,none⟩)] w (fun e w'=>∃t E S,e= .returned (.tuple #[.pointer (some ⟨t,0,none⟩),.int .i64 0])/\E.t=t/\E.b=d.b/\E.g=d.g/\E.txn=txn+1/\E.s=St.empty/\E.ro=w.heap[0]? /\
   uO E False w' S σ 0 Fo 0/\Sr E σ Fo P V Fo.size 0 0 0/\ah [d.b] w w'/\(∀x∈S,x∈0::(d.blocks++Sd)\/w.heap.size<=x)/\w.heap.size<=E.rm):=by
 obtain⟨f1,f2⟩:=hf;have hp:=h.plain;have ho:=hp.ok;have g1:=hF.size;have g2:=hF.mj;have g3:=hF.two.aa ho;have g4:=hF.free;have g5:d.m7.length<=5:=abE hp.oG (by decide);have h1:=hp.t1;have hlen:=hp.perm.length_eq;rw[BJ]at hlen;simp only[BY,Fr.pg,aae]at hlen;have eW:=hp.one;have hold:min ((txn:Int)-1) (d.s.dh (txn:Int))=((txn-1:Nat):Int):=by
  rw[hs,yH];omega
 have Qv:=nG (fun y:Nat×Nat=>decide (y.1<txn)) d.fr;have F7:(d.fr.filter fun y=> !decide (y.1<txn))=d.fr.filter fun y=>decide (txn-1<y.1):=by
  congr 1
  funext y
  by_cases hy:y.1<txn
  ·rw[decide_eq_true hy,decide_eq_false (by omega)];rfl
  ·rw[decide_eq_false hy,decide_eq_true (by omega)];rfl
 rw[F7]at Qv;refine(DM (F:=False) (base:=199-Fo.aa.length-d.m7.length-(Fo.size+13)) (k:=0) (keep:=[]) h ht (by rw[hold];omega) (abc _) (.inr (by omega)) (fun y hy h9=>by simp) (fun m hm=>by cases hm)).mono ?_;rintro e w' ⟨t,rm,S,rfl,k1,k2,k3,k4⟩;refine⟨t,_,S,rfl,rfl,rfl,rfl,rfl,hs,rfl,k1,⟨rfl,hF.two,g1,Ph.begin ho,AS _,g2,?_,g5,?_,?_⟩,k2,k3,k4⟩
 ·show Fo.aa.length<=1+2*Fo.size+V
  omega
 ·show 180+Fo.size+Fo.aa.length+d.m7.length+(d.fr.filter fun y=>decide ((min ((txn:Int)-1) (d.s.dh (txn:Int))).toNat<y.1)).length<=199+4*P+V
  rw[hold,Int.toNat_natCast];omega
 ·show 199-Fo.aa.length-d.m7.length-(Fo.size+13)+Fo.aa.length+d.m7.length+(Fo.size+3*0+0+0+13)=199
  omega
theorem kt:∀ {l:List Nat} {x:Nat},x∈l->x<=l.sum
 | a::l,x,h=>by
  rw[List.sum_cons];rcases IT.1 h with rfl|h
  ·omega
  ·have:=kt h;omega
structure J2 (w0 W:AI) (X:List Nat) (rv:IS) (R:List Tl3):Prop where
 own:eD W w0.heap.size rv R
 off:ah [0] w0 W
 new:∀x∈X,x=0\/w0.heap.size<=x
 ap:∀g,rv.ownBlock=some g->g∉X
theorem J2.go{w0 W W':AI}{X U X':List Nat}{rv:IS}{R:List Tl3}(h:J2 w0 W X rv R)(ho:ah U W W')(hU:∀x∈U,x∈X\/(w0.heap.size<=x/\∀g,rv.ownBlock=some g->g≠x))(hf:∀x∈X',x∈X\/W.heap.size<=x):J2 w0 W' X' rv R:=by
 refine⟨ho.own h.own (fun g hg hm=>(hU g hm).elim (h.ap g hg) (fun h9=>h9.2 g hg rfl)),h.off.then ho (fun x hx=> ?_),fun x hx=> ?_,fun g hg hm=> ?_⟩
 ·rcases hU x hx with h1|h1
  ·exact(h.new x h1).imp (fun e=>by simp[e]) id
  ·exact .inr h1.1
 ·rcases hf x hx with h1|h1
  ·exact h.new x h1
  ·exact .inr (abE h.off.size h1)
 ·rcases hf g hm with h1|h1
  ·exact h.ap g hg h1
  ·have:=(abr h.own g hg).2;omega
theorem J2.below{w0 W W':AI}{X:List Nat}{rv:IS}{R:List Tl3}(h:J2 w0 W X rv R)(hb:No W.heap.size W W'):J2 w0 W' X rv R:=h.go (ah.ae hb []) (by simp) (fun x hx=> .inl hx)
theorem J2.rows{w0 W W':AI}{X:List Nat}{rv rv':IS}{R R':List Tl3}(h:J2 w0 W X rv R)(hX:∀x∈X,x<W.heap.size)(hb:No W.heap.size W W')(hr:eD W' W.heap.size rv' R'):J2 w0 W' X rv' R':=
 ⟨l6 hr h.off.size,h.off.trans (ah.ae hb _),h.new,fun g hg hm=>by have h1:=(abr hr g hg).1;have h2:=hX g hm;omega⟩
theorem Forest.rising{F:Forest}{σ :ag}(h:F.Ok σ)(n:ByteArray):Tr.bB (F.tr n).L:=(h.each n).rising
def RP (w0:AI) (b n P V:Nat) (rv:IS) (R:List Tl3) (W:AI):Prop:=∃d Sd D σ Fo aa,d.b=b/\d.s=St.empty/\fy W d Sd D σ Fo n aa 200/\RQ d D σ Fo n aa P V/\Fo.rows=R/\J2 w0 W (0::(d.blocks++Sd)) rv R/\W.heap[0]? =w0.heap[0]?
def pD (w0:AI) (z t b n P V nr:Nat) (rv:IS) (R RF:List Tl3) (W:AI):Prop:=∃E S σ k Fo P0 V0 n0 a d v,E.t=t/\E.b=b/\E.txn=n+1/\E.s=St.empty/\E.ro=w0.heap[0]? /\(w0.heap.size<=E.rm/\∀g,rv.ownBlock=some g->g≠E.rm)/\P=P0+a/\V=V0+v/\
 uO E False W S σ k Fo nr/\Sr E σ Fo P0 V0 n0 a d v/\Fo.rows=RF/\J2 w0 W S rv R/\∀x∈E.rm::S,x<z
def XH (w0:AI) (t b n P V i:Nat) (rv:IS) (R:List Tl3) (W:AI):Prop:=∃(K:Kn) (S:List Nat) (G:Forest) (σ :ag) (aa:Nat) (l:List (Nat×Nat)) (ch:List Nat),K.t=t/\K.b=b/\K.txn=n+1/\K.limit=200/\K.s=St.empty/\K.ro=w0.heap[0]? /\
 OO K i W S G σ aa l ch/\G.Dt/\G.size<=P/\G.mj<=V/\180+G.size<=K.base+4*P+V/\G.rows=R/\J2 w0 W S rv R
theorem uO.abF{E:Kv}{w:AI}{S:List Nat}{σ :ag}{k nr:Nat}{Fo:Forest}(h:uO E False w S σ k Fo nr):(∀x∈S,x<w.heap.size)/\E.rm<w.heap.size:=by
 obtain⟨n,-,h4⟩:=h.wr.roots;exact⟨(cj h.ok False).old h.wr.at_,h4.lt⟩
theorem pD.below{w0:AI}{z t b n P V nr:Nat}{rv:IS}{R RF:List Tl3}{W W':AI}(h:pD w0 z t b n P V nr rv R RF W)(hb:No W.heap.size W W'):pD w0 z t b n P V nr rv R RF W':=by
 obtain⟨E,S,σ,k,Fo,P0,V0,n0,a,d,v,h1,h2,h3,h4,h5,h6,h7,h8,h9,gd,CQ,oK,mW⟩:=h;exact⟨E,S,σ,k,Fo,P0,V0,n0,a,d,v,h1,h2,h3,h4,h5,h6,h7,h8,h9.below hb,gd,CQ,oK.below hb,mW⟩
theorem pD.rows{w0:AI}{z t b n P V nr:Nat}{rv rv':IS}{R R' RF:List Tl3}{W W':AI}(h:pD w0 z t b n P V nr rv R RF W)(hb:No W.heap.size W W')(hr:eD W' W.heap.size rv' R'):pD w0 z t b n P V nr rv' R' RF W':=by
 obtain⟨E,S,σ,k,Fo,P0,V0,n0,a,d,v,h1,h2,h3,h4,h5,h6,h7,h8,h9,gd,CQ,oK,mW⟩:=h;obtain⟨o1,o2⟩:=h9.abF;exact⟨E,S,σ,k,Fo,P0,V0,n0,a,d,v,h1,h2,h3,h4,h5,⟨h6.1,fun g hg=>by have:=(abr hr g hg).1;omega⟩,h7,h8,h9.below hb,gd,CQ,oK.rows o1 hb hr,mW⟩
theorem pD.own{w0:AI}{z t b n P V nr:Nat}{rv:IS}{R RF:List Tl3}{W:AI}(h:pD w0 z t b n P V nr rv R RF W):eD W w0.heap.size rv R:=by
 obtain⟨E,S,σ,k,Fo,P0,V0,n0,a,d,v,h1,h2,h3,h4,h5,h6,h7,h8,h9,gd,CQ,oK,mW⟩:=h;exact oK.own
theorem pD.top{w0:AI}{z t b n P V nr:Nat}{rv:IS}{R RF:List Tl3}{W:AI}(h:pD w0 z t b n P V nr rv R RF W):pD w0 W.heap.size t b n P V nr rv R RF W:=by
 obtain⟨E,S,σ,k,Fo,P0,V0,n0,a,d,v,h1,h2,h3,h4,h5,h6,h7,h8,h9,gd,CQ,oK,mW⟩:=h;obtain⟨o1,o2⟩:=h9.abF;exact⟨E,S,σ,k,Fo,P0,V0,n0,a,d,v,h1,h2,h3,h4,h5,h6,h7,h8,h9,gd,CQ,oK,fun x hx=>by
  rcases IT.1 hx with rfl|hx
  ·exact o2
  ·exact o1 x hx⟩
theorem pD.all{w0:AI}{z t b n P V nr:Nat}{rv:IS}{R RF:List Tl3}{W:AI}(h:pD w0 z t b n P V nr rv R RF W):No w0.heap.size w0 W:=by
 obtain⟨E,S,σ,k,Fo,P0,V0,n0,a,d,v,h1,h2,h3,h4,h5,h6,h7,h8,h9,gd,CQ,oK,mW⟩:=h;obtain⟨x,f,dm,nn,Sf,lv,fv,hm,-⟩:=h9.wr.at_;exact⟨oK.off.os,oK.off.tape,oK.off.output,oK.off.size,fun i hi=>by
  by_cases e:i=0
  ·subst e;exact hm.row.2.trans h5
  ·exact oK.off.block i hi (by simpa using e)⟩
theorem sU{w0:AI}{b n P V:Nat}{rv:IS}{R:List Tl3}{W:AI}(h:RP w0 b n P V rv R W)(hn:n<=1000)(hf:jF P V):aag prog 11 #[.pointer (some ⟨b,0,none⟩)] W (fun e w'=>∃t,e= .returned (.tuple #[.pointer (some ⟨t,0,none⟩),.int .i64 0])/\pD w0 w'.heap.size t b n P V 0 rv R R w'):=by
 obtain⟨d,Sd,D,σ,Fo,aa,rfl,h2,h3,h4,h5,h6,h7⟩:=h;refine(Jx h3 h2 hn h4 hf).mono ?_;rintro e w' ⟨t,E,S,rfl,k1,k2,k3,k4,k5,k6,k7,k8,k9,k10,k11⟩;refine⟨t,rfl,pD.top (z:=w'.heap.size+E.rm+(E.rm::S).sum+1) ⟨E,S,σ,0,Fo,P,V,Fo.size,0,0,0,k1,k2,k4,k5,k6.trans h7,⟨abE h6.off.size k11,fun g hg e=> ?_⟩,rfl,rfl,k7,k8,h5,h6.go k9 (fun x hx=> .inl ?_) k10,fun x hx=>by have:=kt hx;omega⟩⟩
 ·have:=(abr h6.own g hg).2;omega
 ·rw[List.mem_singleton]at hx
  subst hx;simp[Di.blocks]
theorem UI{w0:AI}{z t b n P V nr:Nat}{rv:IS}{R RF:List Tl3}{W:AI}(h:pD w0 z t b n P V nr rv R RF W)(nR:nr<=100000)(name key val:ByteArray)(hn:name=eE\/name=eI)(dw:1<=key.size)(bO:key.size<=120)(hv:val.size<=1200)(hf:jF (P+1) (V+Tr.pieces val.size)):
  aag prog 12 #[.pointer (some ⟨t,0,none⟩),.string name,.string key,.string val] W (fun e w'=>e= .returned (.int .i64 0)/\pD w0 w'.heap.size t b n (P+1) (V+Tr.pieces val.size) (nr+1) rv R (Tl3.put ⟨name,key,val⟩ RF) w'/\∃U,ah U W w'/\∀x∈U,x<z):=by
 obtain⟨E,S,σ,k,Fo,P0,V0,n0,a,d,v,rfl,rfl,h3,h4,h5,h6,rfl,rfl,h9,gd,rfl,oK,mW⟩:=h;refine(RE h9 gd nR name key val hn dw bO hv hf).mono ?_;rintro e w' ⟨rfl,y,tt,σ',S',k',bb,q1,q2,q3,q4,q5,q6,q7⟩;refine⟨rfl,pD.top (z:=(E.rm::S').sum+1) ⟨E.kH bb,S',σ',k',Fo.put name tt,P0,V0,n0,a+1,d,v+Tr.pieces val.size,rfl,rfl,h3,h4,h5,h6,by omega,by omega,q1,q2,?_,oK.go q6 (fun x hx=> ?_) q7,fun x hx=>Nat.lt_succ_of_le (kt hx)⟩,_,q6,mW⟩
 ·rw[Forest.Jw q3 hn (Forest.rising h9.wr.ok) q5,q4]
 ·rcases IT.1 hx with rfl|hx
  ·exact .inr h6
  ·exact .inl hx
theorem UH{w0:AI}{z t b n P V nr:Nat}{rv:IS}{R RF:List Tl3}{W:AI}(h:pD w0 z t b n P V nr rv R RF W)(nR:nr<=100000)(name key:ByteArray)(hn:name=eE\/name=eI)(hf:jF P V):
  aag prog 81 #[.pointer (some ⟨t,0,none⟩),.string name,.string key] W (fun e w'=>∃ok,e= .returned (.tuple #[.bool ok,.int .i64 0])/\∃nr',nr'<=nr+1/\pD w0 w'.heap.size t b n P V nr' rv R (Tl3.del name key RF) w'/\∃U,ah U W w'/\∀x∈U,x<z):=by
 obtain⟨E,S,σ,k,Fo,P0,V0,n0,a,d,v,rfl,rfl,h3,h4,h5,h6,rfl,rfl,h9,gd,rfl,oK,mW⟩:=h;refine(RD h9 gd nR name key hn hf).mono ?_;rintro e w' ⟨ok,rfl,hw⟩;rcases hw.out with⟨tt,σ',S',k',bb,-,q1,q2,q3,q4,q5⟩|⟨-,q1,q2⟩
 ·refine⟨ok,rfl,nr+1,AS _,pD.top (z:=(E.rm::S').sum+1) ⟨E.kH bb,S',σ',k',Fo.put name tt,P0,V0,n0,a,d+1,v,rfl,rfl,h3,h4,h5,h6,rfl,rfl,q1,q2,Forest.Jv hn (Forest.rising h9.wr.ok) q3,oK.go q4 (fun x hx=> ?_) q5,fun x hx=>Nat.lt_succ_of_le (kt hx)⟩,_,q4,mW⟩
  rcases IT.1 hx with rfl|hx
  ·exact .inr h6
  ·exact .inl hx
 ·exact⟨ok,rfl,nr,Nat.le_succ _,pD.top (z:=z) ⟨E,S,σ,k,Fo,P0,V0,n0,a,d,v,rfl,rfl,h3,h4,h5,h6,rfl,rfl,h9.below q2,gd,(Forest.RC hn q1).symm,oK.below q2,mW⟩,[],ah.ae q2 [],by simp⟩
theorem Li{w0:AI}{z t b n P V nr:Nat}{rv:IS}{R:List Tl3}{W:AI}(h:pD w0 z t b n P V nr rv R R W)(nR:nr<=1000000)(hf:jF P V):aag prog 13 #[.pointer (some ⟨t,0,none⟩)] W (fun e w'=>e= .returned (.tuple #[.bool false,.int .i64 0])/\XH w0 t b n P V 1 rv R w'):=by
 obtain⟨E,S,σ,k,Fo,P0,V0,n0,a,d,v,rfl,rfl,h3,h4,h5,h6,rfl,rfl,h9,gd,CQ,oK,mW⟩:=h;obtain⟨f1,f2⟩:=hf;have ho:=h9.wr.ok;have g1:=gd.size;have g2:=gd.ns;have g3:=gd.u;have g4:=gd.pc;have g5:=gd.sure;have g6:=gd.base;have g7:=gd.two.len ho;have g8:=gd.mj;have hp:Fr.pieces E.limit=5:=by rw[gd.limit];decide
 have h2:=h9.EX (b:=E.base) (k':=13) (gd.ax ho) (AS _) (by rw[gd.limit];omega) (by rw[gd.limit];omega);refine(Ob h2 nR (q:=4) (fun τ G hG hN=>(hG.BC (by rw[hN];exact g7)).2) (by
  show Fo.NS.length*4+Fr.pieces E.limit<=13;rw[hp];omega)).mono ?_
 rintro e w' ⟨rfl,G,σ',aa,l,ch,S',k1,k2,k3,k4,k5⟩;have cZ:G.size=Fo.size:=by unfold Forest.size;rw[k2]
 have Wc:G.mj=Fo.mj:=by unfold Forest.mj;rw[k2]
 refine⟨rfl,(E.kH E.base).kn,S',G,σ',aa,l,ch,rfl,rfl,h3,gd.limit,h4,h5,k1,fun m hm=>gd.two m (by rw[<-k3];exact hm),by omega,by omega,?_,?_,oK.go k4 (fun x hx=> .inl hx) k5⟩
 ·show 180+G.size<=E.base+4*(P0+a)+(V0+v)
  omega
 ·rw[<-CQ]
  unfold Forest.rows;rw[k2]
theorem ya{w0:AI}{t b n P V i:Nat}{rv:IS}{R:List Tl3}{W:AI}(h:XH w0 t b n P V i rv R W)(hi:i=1\/i=2\/i=3):aag prog 13 #[.pointer (some ⟨t,0,none⟩)] W (fun e w'=>e= .returned (.tuple #[.bool false,.int .i64 0])/\XH w0 t b n P V (i+1) rv R w'):=by
 obtain⟨K,S,G,σ,aa,l,ch,rfl,rfl,h3,h4,h5,h6,h7,h8,h9,gd,CQ,oK,mW⟩:=h;have key:aag prog 13 #[.pointer (some ⟨K.t,0,none⟩)] W (fun e w'=>e= .returned (.tuple #[.bool false,.int .i64 0])/\∃S',OO K (i+1) w' S' G σ aa l ch/\ah S W w'/\aj W S S'):=by
  rcases hi with rfl|rfl|rfl
  ·exact I2 h7
  ·exact I3 h7
  ·exact I4 h7
 refine key.mono ?_;rintro e w' ⟨rfl,S',k1,k2,k3⟩;exact⟨rfl,K,S',G,σ,aa,l,ch,rfl,rfl,h3,h4,h5,h6,k1,h8,h9,gd,CQ,oK,mW.go k2 (fun x hx=> .inl hx) k3⟩
theorem PM{w0:AI}(hr:0<w0.heap.size){t b n P V:Nat}{rv:IS}{R:List Tl3}{W:AI}(h:XH w0 t b n P V 4 rv R W):aag prog 13 #[.pointer (some ⟨t,0,none⟩)] W (fun e w'=>e= .returned (.tuple #[.bool true,.int .i64 0])/\RP w0 b (n+1) P V rv R w'):=by
 obtain⟨K,S,G,σ,aa,l,ch,rfl,rfl,h3,h4,h5,h6,h7,h8,h9,gd,CQ,oK,mW⟩:=h;refine(M1 h7).mono ?_;rintro e w' ⟨rfl,d',cQ,D',k1,k2,k3,k4,k5,k6,k7,k8,k9,k10,k11,k12⟩;rw[h3,h4]at k1;rw[h3,h4]at k10;refine⟨rfl,d',cQ,D',σ,G,aa,k2,k6.trans h5,k1,⟨h8,h9,gd,by rw[k7];omega⟩,oK,?_,k9.trans h6⟩;have hu:=mW.go (X':=d'.blocks++cQ) k11 (fun x hx=> .inl hx) k12;refine⟨hu.own,hu.off,fun x hx=> ?_,fun g hg hm=> ?_⟩
 ·rcases IT.1 hx with rfl|hx
  ·exact .inl rfl
  ·exact hu.new x hx
 ·rcases IT.1 hm with hm|hm
  ·have:=(abr hu.own g hg).1;omega
  ·exact hu.ap g hg hm
def C2 (limit:Nat) (w:AI) (e:Ending) (w':AI):Prop:=∃b q r f g Sf Sd,e= .returned (.pointer (some ⟨b,0,none⟩))/\
 fy w' (pd b q r f g Sf limit) Sd (cn (4*limit) limit) (fun _=>none) Forest.zero 1 1 limit/\No w.heap.size w w'/\(∀x∈(pd b q r f g Sf limit).blocks++Sd,w.heap.size<=x)
theorem Dv(limit:Nat)(hl:4<=limit/\limit<=512)(w:AI)(hr:aO w):aag prog 80 #[.int .i64 limit] w (C2 limit w):=by
 have HR:=sh hr;have y4:IntKind.i64.wrap (4*(limit:Int))=((4*limit:Nat):Int):=by rw[IntKind.wrap_i64];omega
 have HN:Hid (∀W,aag prog 41 #[.int .i64 ((4*limit:Nat):Int)] W (xV (4*limit) W)):=fun W=>zU (4*limit) W (by omega) (by omega);have HF:Hid (eS (DevS.new (4*limit)) limit=(cn (4*limit) limit,0)):=tp (by omega) (by omega);have HO:Hid (dQ (cn (4*limit) limit)=0/\kQ (cn (4*limit) limit)=qR limit):=Ai (by omega) (by omega);have HL:=sh hl;obtain⟨n4,j6⟩:∃n4,n4=4*limit:=⟨_,rfl⟩;rw[<-j6]at HN HF HO y4;have G7:=sh j6;clear hr hl j6;go_enter func80,ntmps80
 go_wp2_with fail
 (go_at_call 41)
 refine(HN.out _).mono ?_;rintro e w1 ⟨g,S1,rfl,zh,Aq,Zn⟩;have TP:=sh zh;have H1:Hid (No w.heap.size w w1/\∀b∈S1,w.heap.size<=b):=⟨Aq,Zn⟩;clear zh Aq Zn;go_wp2_with fail
 (go_at_call 42)
 have SX:(DevS.new n4).sec.length=n4:=by simp[DevS.new]
 have kS:4<=(limit:Int)/\(limit:Int)<=512/\4*(limit:Int)<=((DevS.new n4).sec.length:Int):=by
  have h1:=HL.out;have h2:=G7.out;rw[SX];omega
 have ads:=sh kS;clear SX kS;refine(oV ((wH TP.out limit (HR.out.below H1.out.1) (GH HR.out H1.out.2) (by show (0:Int)<=_;omega) ads.out 0 HF.out).mono (fun e w' h=>⟨⟨_,h.1⟩,h⟩))).mono ?_;rintro e w2 ⟨rfl,qY⟩;obtain⟨S2,mE,qT,Zo⟩:=BS H1.out.1 H1.out.2 qY;have uK:=sh mE;have H2:Hid (No w.heap.size w w2/\∀b∈S2,w.heap.size<=b):=⟨qT,Zo⟩;clear mE qT Zo qY;go_wp2_with fail
 (go_at_call 43)
 refine(MX uK.out (HR.out.below H2.out.1) (by show (3:Int)<=_;omega) HO.out.1 HO.out.2 rfl).mono ?_;rintro e w3 ⟨b,q,r,f,Sf,rfl,gI,ar,MD,hr1,aba,wL⟩;have KD:=sh gI;have dt:=sh wL;have Ub:=sh (show w2.heap.size<=b/\w2.heap.size<=q/\w2.heap.size<=r/\∀x∈Sf,w2.heap.size<=x from ⟨ar,MD,hr1,aba⟩);clear gI ar MD hr1 aba wL;go_wp2_with fail
 go_ret
 have SG:=KD.out;have oo:=dt.out.size;have jw:=H2.out.1.size;have j6:=G7.out;obtain⟨nb,nq,nr,nf⟩:=Ub.out;have ZT:=uK.out.below dt.out;have mT:∀x∈(pd b q r f g Sf limit).blocks,w2.heap.size<=x/\x<w3.heap.size:=fun x hx=>by
  refine⟨?_,SG.old x hx⟩;simp only[Di.blocks,pd,Value.ownBlock,IT,AT,Option.mem_toList,List.not_mem_nil,or_false]at hx;rcases hx with rfl|rfl|rfl|hx|hx
  ·exact nb
  ·exact nr
  ·exact nq
  ·exact nf _ hx
  ·cases hx
 have UZ:∀x∈S2,w.heap.size<=x/\x<w2.heap.size:=fun x hx=>⟨H2.out.2 x hx,uK.out.old x hx⟩;have bc:=HR.out.lt;subst j6;refine⟨b,q,r,f,g,Sf,S2,rfl,⟨SG,ZT,HR.out.below (H2.out.1.trans (dt.out.mono jw)),Ij HL.out,⟨fun hs=> ?_,fun hs=> ?_,fun x hx hs=> ?_,fun hs=> ?_,fun hs=> ?_⟩,fun g hg=>(by cases hg),.inl rfl⟩,H2.out.1.trans (dt.out.mono jw),?_⟩
 ·have h1:=UZ _ hs;have h2:=mT b (by simp[Di.blocks,pd]);exact absurd h1.2 (by show ¬ b<_;omega)
 ·have h1:=UZ _ hs;have h2:=mT r (by simp[Di.blocks,pd]);exact absurd h1.2 (by show ¬ r<_;omega)
 ·have h1:=UZ _ hs;have h2:=mT x (by simp[Di.blocks,hx]);omega
 ·have h1:=UZ _ hs;omega
 ·have h2:=mT _ (by simp only[Di.blocks,IT,AT];exact .inr (.inr (.inl hs)));omega
 ·intro x hx
  rcases AT.1 hx with hx|hx
  ·have:=mT x hx;omega
  ·exact(UZ x hx).1
theorem PO{w w1 W:AI}{b q r f g:Nat}{Sf Sd:List Nat}{rv:IS}(hr:aO w)(h:fy w1 (pd b q r f g Sf 200) Sd (cn (4*200) 200) (fun _=>none) Forest.zero 1 1 200)(hb:No w.heap.size w w1)(hn:∀x∈(pd b q r f g Sf 200).blocks++Sd,w.heap.size<=x)(az:No w1.heap.size w1 W)(au:eD W w1.heap.size rv []):RP w b 1 0 0 rv [] W:=by
 have AW:=hr.lt;have hs:=hb.size;refine⟨pd b q r f g Sf 200,Sd,_,_,Forest.zero,1,rfl,rfl,h.below az,⟨fun m hm=>(by cases hm),AS _,AS _,?_⟩,rfl,⟨l6 au hs,(ah.ae (hb.trans (az.mono hs)) []).mono (by simp),fun x hx=> ?_,fun y hy hm=> ?_⟩,(hb.trans (az.mono hs)).block _ AW⟩
 ·show 180+0<=0+(200-1)+4*0+0
  omega
 ·rcases IT.1 hx with rfl|hx
  ·exact .inl rfl
  ·exact .inr (hn x hx)
 ·have h1:=(abr au y hy).1
  rcases IT.1 hm with rfl|hm
  ·omega
  ·rcases AT.1 hm with hm|hm
   ·have:=h.db.old y hm;omega
   ·have:=h.dev.old y hm;omega
def lA (n:Int):ByteArray:=if bits .and .i64 n 1=0 then eI else eE
theorem Dw(n:Int):lA n=eE\/lA n=eI:=by unfold lA;split<;>simp
theorem Hf(n:Int)(w:AI):aag prog 82 #[.int .i64 n] w (fun e w'=>e= .returned (.string (lA n))/\w=w'):=by
 obtain⟨m,hm⟩:∃m,m=bits .and .i64 n 1:=⟨_,rfl⟩;have mF:=hm.symm;have fj:((m==0)=true/\lA n=⟨#[98]⟩)\/((m==0)=false/\lA n=⟨#[97,0]⟩):=by
  unfold lA;rw[<-hm];by_cases h:m=0
  ·exact .inl ⟨by rw[h];rfl,if_pos h⟩
  ·exact .inr ⟨by rw[beq_eq_false_iff_ne];exact h,if_neg h⟩
 clear hm;rcases fj with⟨z1,z2⟩|⟨z1,z2⟩;all_goals
  rw[z2];go_enter func82,ntmps82
  go_wp2_with fail
  go_ret
  exact⟨rfl,rfl⟩
def AuS (w0:AI) (z t b n P V nr i:Nat) (rv:IS) (R:List Tl3) (W:AI):Prop:=if i=0 then pD w0 z t b n P V nr rv R R W else if i=5 then RP w0 b (n+1) P V rv R W else XH w0 t b n P V i rv R W
theorem Lm{w0:AI}(hr:0<w0.heap.size){z t b n P V nr i:Nat}{rv:IS}{R:List Tl3}{W:AI}(h:AuS w0 z t b n P V nr i rv R W)(hi:i<5)(nR:nr<=1000000)(hf:jF P V):aag prog 13 #[.pointer (some ⟨t,0,none⟩)] W (fun e w'=>e= .returned (.tuple #[.bool (decide (i=4)),.int .i64 0])/\AuS w0 z t b n P V nr (i+1) rv R w'):=by
 match i,hi with
 | 0,_=>exact Li h nR hf
 | 1,_=>exact ya h (.inl rfl)
 | 2,_=>exact ya h (.inr (.inl rfl))
 | 3,_=>exact ya h (.inr (.inr rfl))
 | 4,_=>exact PM hr h
theorem mu{w0:AI}(hr:0<w0.heap.size){z t b n P V nr:Nat}{rv:IS}{R:List Tl3}{W:AI}(h:pD w0 z t b n P V nr rv R R W)(nR:nr<=1000000)(hf:jF P V):aag prog 85 #[.pointer (some ⟨t,0,none⟩)] W (fun e w'=>e= .returned (.bool true)/\RP w0 b (n+1) P V rv R w'):=by
 have H0:=sh (show AuS w0 z t b n P V nr 0 rv R W from h);have HF:=sh hf;clear h hf;go_enter func85,ntmps85
 go_wp2_with fail
 go_loopw [3] (fun iv wr=>∃i:Nat,iv= .int .i64 i/\i<=5/\Hid (AuS w0 z t b n P V nr i rv R wr)) (fun iv _=>5-(intOf iv).toNat)
 case atStart=>exact⟨0,rfl,by omega,H0⟩
 case round=>
  obtain⟨i,rfl,hi,HS⟩:=hrel;by_cases aI:i<5
  ·have z1:decide ((i:Int)<5)=true:=decide_eq_true (by omega)
   have j5:=sh (Lm hr HS.out aI nR HF.out);obtain⟨q,hq⟩:∃q,q=decide (i=4):=⟨_,rfl⟩;rw[<-hq]at j5;have z2:((i:Int)==4)=q:=by
    rw[hq];by_cases e:i=4
    ·subst e;rfl
    ·rw[decide_eq_false e,beq_eq_false_iff_ne];omega
   clear hq H0;go_wp2_with fail
   refine j5.out.mono ?_;rintro e w2 ⟨rfl,jw⟩;have j9:=sh jw;clear jw;cases q with
   | true=>
    go_wp2_with fail
    go_roundw
    case rel=>exact⟨i+1,by go_num,by omega,j9⟩
    case measure=>simp[intOf];omega
   | false=>
    go_wp2_with fail
    go_roundw
    case rel=>exact⟨i+1,by go_num,by omega,j9⟩
    case measure=>simp[intOf];omega
  ·have z1:decide ((i:Int)<5)=false:=decide_eq_false (by omega)
   obtain rfl:i=5:=by omega
   have HE:=sh (show RP w0 b (n+1) P V rv R wr from HS.out);clear HS H0;go_wp2_with fail
   go_ret
   exact⟨rfl,HE.out⟩
end Go.Proofs.YtjbcbnemdhbhbaaGreatDoor
