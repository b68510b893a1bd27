import Derived.Test.YtjbcbnemdhbhbaaGreatDoorB25
import Derived.Test.YtjbcbnemdhbhbaaGreatDoorB23
import Derived.Test.YtjbcbnemdhbhbaaGreatDoorB2
import Derived.Test.YtjbcbnemdhbhbaaGreatDoorB9
import Derived.Test.YtjbcbnemdhbhbaaGreatDoorB8
import Derived.LoopN
import Derived.Test.YtjbcbnemdhbhbaaGreatDoorB13
import Derived.Test.YtjbcbnemdhbhbaaGreatDoorB15
set_option maxRecDepth 100000
set_option linter.unusedVariables false
set_option linter.unusedSimpArgs false
set_option maxHeartbeats 40000000
open Go renaming Calls→aag,Value→IS,World→AI,bodyPost_ret→abT,rounds_succ→abK
open Go.Instr renaming lookup→acW
open Go.Lib renaming hid→sh
open Go.RowKit renaming Below→No
open Go.RowKit.Below renaming refl→IN
open Go.Value renaming ownBlock→aaU
open Go.World.ownsRow renaming cells→afw,lt→abr
open List renaming append_assoc→OF,length_append→BY,length_nil→ado,length_singleton→adC,mem_append→AT,mem_cons→IT,mem_singleton→By,nodup_append→aai,nodup_cons→abN
open Nat renaming le_refl→AS,le_trans→abE,lt_of_lt_of_le→aaf
open Option renaming none→afm
namespace Go.Proofs.YtjbcbnemdhbhbaaGreatDoor
open Go.Proofs.Tryz
open Go.RowKit
open Go.PlainAid
theorem JU{s:ByteArray}{k n t:Int}{b:ByteArray}(h:gO s k n t b)(w:AI)(hr:aO w):aag prog 212 #[.string s] w (fun e w'=>e= .returned (.tuple #[.agg #[.int .i64 k,.int .i64 n,.int .i64 t,.string b],.int .i64 0])/\No w.heap.size w w'):=by
 have h1:=Fu s w hr;obtain⟨e1,e2,e3,e4,e5⟩:=OB h;unfold dG at h1;rw[e1,e2,e3,e4,e5]at h1;exact h1
theorem Bk.GM{w:AI}{q:Nat}{t:TypeId}{v0 v1 v2 v3:IS}(h:Bk w q t #[v0,v1,v2,v3])(a0 a1 a2 a3:IS):
  (w.setCell ⟨q,0,none⟩ a0).cell? ⟨q,0,none⟩=some a0/\((w.setCell ⟨q,0,none⟩ a0).setCell ⟨q,1,none⟩ a1).cell? ⟨q,1,none⟩=some a1/\(((w.setCell ⟨q,0,none⟩ a0).setCell ⟨q,1,none⟩ a1).setCell ⟨q,2,none⟩ a2).cell? ⟨q,2,none⟩=some a2/\
  ((((w.setCell ⟨q,0,none⟩ a0).setCell ⟨q,1,none⟩ a1).setCell ⟨q,2,none⟩ a2).setCell ⟨q,3,none⟩ a3).cell? ⟨q,3,none⟩=some a3:=by
 have h0:=h.put 0 a0;have h1:=h0.put 1 a1;have h2:=h1.put 2 a2;have h3:=h2.put 3 a3;exact⟨h0.cell 0,h1.cell 1,h2.cell 2,h3.cell 3⟩
def Ha (k no t:Int) (b:ByteArray) (w:AI) (e:Ending) (w':AI):Prop:=e= .returned (.tuple #[.agg #[.int .i64 k,.int .i64 no,.int .i64 t,.string b],.int .i64 0])/\No w.heap.size w w'
theorem xe{w:AI}{q g:Nat}{T S:List Nat}{P:eR}{D:DevS}(hp:Pg w q T g P)(hd:Dev w g S D)(hr:aO w)(hb:D.steps<=1000000000)(bG:D.off=false)(no:Nat)(h1:1<=no)(h2:(no:Int)<P.m.l){k t:Int}{b:ByteArray}(hx:D.ve no k t b):
  aag prog 156 #[.pointer (some ⟨q,0,none⟩),.int .i64 no] w (Ha k no t b w):=by
 obtain⟨sl,lg,kY⟩:=hp;have c0:w.cell? ⟨q,0,none⟩=some (.pointer (some ⟨g,0,none⟩)):=kY.cells.cell 0;have c5:w.cell? ⟨q,5,none⟩=some (.int .i64 P.m.l):=kY.cells.cell 5;have lq:=kY.cells.lt;obtain⟨s0,e0⟩:∃s,s=D.aG (4*no):=⟨_,rfl⟩;obtain⟨s1,e1⟩:∃s,s=D.aG (4*no+1):=⟨_,rfl⟩;obtain⟨s2,e2⟩:∃s,s=D.aG (4*no+2):=⟨_,rfl⟩;obtain⟨s3,e3⟩:∃s,s=D.aG (4*no+3):=⟨_,rfl⟩;have hf:=hx.fits;have fi:=hd.ok;have hm:=fi.most;have z0:s0.size=128:=by rw[e0];exact DevS.gE fi (by omega)
 have z1:s1.size=128:=by rw[e1];exact DevS.gE fi (by omega)
 have z2:s2.size=128:=by rw[e2];exact DevS.gE fi (by omega)
 have z3:s3.size=128:=by rw[e3];exact DevS.gE fi (by omega)
 have HR:∀(j:Nat) (s:ByteArray),j<4->s=D.aG (4*no+j)->Hid (∀(W:AI),No w.heap.size w W->∀i:Int,i=4*(no:Int)+j->aag prog 152 #[ptr g,.int .i64 i] W (oz s 0 W)):=fun j s hj hs=>sh fun W hW i hi=>by
  subst hs hi;have:=cC (hd.below hW) ((4*no+j:Nat):Int) (D.aG (4*no+j)) 0 hb (DevS.Rz bG (by omega));rw[show ((4*no+j:Nat):Int)=4*(no:Int)+j by omega]at this;exact this
 have Yz:=HR 0 s0 (by omega) e0;have KK:=HR 1 s1 (by omega) e1;have gM:=HR 2 s2 (by omega) e2;have HR3:=HR 3 s3 (by omega) e3;clear HR;have HU:=sh (show gO ⟨(s0.data.toList++(s1.data.toList++(s2.data.toList++s3.data.toList))).toArray⟩ k no t b by rw[e0,e1,e2,e3,<-OF,<-OF];exact hx.bytes);have rN:=sh hr;have y1:decide ((no:Int)<1)=false:=decide_eq_false (by omega);have y2:decide (P.m.l<=(no:Int))=false:=decide_eq_false (by omega);have hn:no<512:=by omega
 have HZ:=sh (show s0.size=128/\s1.size=128/\s2.size=128/\s3.size=128 from ⟨z0,z1,z2,z3⟩);have y3:((no:Int) != (no:Int))=false:=by simp
 clear e0 e1 e2 e3 hx hd kY z0 z1 z2 z3 fi hm hf bG hb hr h2;go_enter func156,ntmps156
 go_wp2_with fail
 refine wp_loop_rounds 5 ?_;rw[abK];go_wp2_with fail
 refine(Yz.out _ (((IN _ w).alloc (AS _) _).alloc (by simp) _) _ (by omega)).mono ?_;rintro e w1 ⟨rfl,rfl⟩;have Sc:=sh (show SB (w.heap.size+1) (w.heap.size+1) [] ((w.alloc (.cells #[.int .i64 0,.int .i64 0,.int .i64 0,.string ⟨#[]⟩] 126)).alloc (.cells #[.pointer none,.slice none 0 0] 300)) from by have h:=NY (w.alloc (.cells #[.int .i64 0,.int .i64 0,.int .i64 0,.string ⟨#[]⟩] 126));rw[show (w.alloc (.cells #[.int .i64 0,.int .i64 0,.int .i64 0,.string ⟨#[]⟩] 126)).heap.size=w.heap.size+1 by simp]at h;exact h);have kR:=sh (show No w.heap.size w ((w.alloc (.cells #[.int .i64 0,.int .i64 0,.int .i64 0,.string ⟨#[]⟩] 126)).alloc (.cells #[.pointer none,.slice none 0 0] 300)) from ((IN _ w).alloc (AS _) _).alloc (by simp) _);have Dh:=sh (show Bk ((w.alloc (.cells #[.int .i64 0,.int .i64 0,.int .i64 0,.string ⟨#[]⟩] 126)).alloc (.cells #[.pointer none,.slice none 0 0] 300)) w.heap.size 126 #[.int .i64 0,.int .i64 0,.int .i64 0,.string ⟨#[]⟩] from (Bk.new w _ _).alloc _);go_wp2_with fail
 refine(jW _ _ _ _ _ Sc.out (by have:=HZ.out;simp only[BY,ado,bY];omega) (by have:=kR.out.size;simp)).mono ?_;rintro e v0 ⟨rfl,hs,hb⟩;have YF:=sh hs;have bh:=sh (kR.out.trans (hb.mono (by simp)));have akm:v0.cell? ⟨q,0,none⟩=some (.pointer (some ⟨g,0,none⟩)):=(bh.out.cell (p:=⟨q,0,none⟩) lq).trans c0;have amw:q<v0.heap.size:=aaf lq bh.out.size;have OK:=sh (show w.heap.size+1<v0.heap.size from by have h9:=hb.size;simp at h9;omega);have CJ:=sh (show Bk v0 w.heap.size 126 #[.int .i64 0,.int .i64 0,.int .i64 0,.string ⟨#[]⟩] from (hb.block w.heap.size (by simp)).trans Dh.out);clear hs hb;go_wp2_with fail
 rw[abK];go_wp2_with fail
 refine(KK.out _ bh.out (4*(no:Int)+1) (by omega)).mono ?_;rintro e w3 ⟨rfl,rfl⟩;go_wp2_with fail
 refine(jW _ _ _ _ _ YF.out (by have:=HZ.out;simp only[BY,ado,bY];omega) (by have:=bh.out.size;have:=OK.out;omega)).mono ?_;rintro e v1 ⟨rfl,hs,hb⟩;have j9:=sh hs;have bz:=sh (bh.out.trans (hb.mono (by simp)));have akn:v1.cell? ⟨q,0,none⟩=some (.pointer (some ⟨g,0,none⟩)):=(bz.out.cell (p:=⟨q,0,none⟩) lq).trans c0;have amx:q<v1.heap.size:=aaf lq bz.out.size;have Dd:=sh (show w.heap.size+1<v1.heap.size from by have h9:=hb.size;have:=OK.out;omega);have pE:=sh (show Bk v1 w.heap.size 126 #[.int .i64 0,.int .i64 0,.int .i64 0,.string ⟨#[]⟩] from (hb.block w.heap.size (by simp)).trans CJ.out);clear hs hb;go_wp2_with fail
 rw[abK];go_wp2_with fail
 refine(gM.out _ bz.out (4*(no:Int)+2) (by omega)).mono ?_;rintro e w5 ⟨rfl,rfl⟩;go_wp2_with fail
 refine(jW _ _ _ _ _ j9.out (by have:=HZ.out;simp only[BY,ado,bY];omega) (by have:=bz.out.size;have:=Dd.out;omega)).mono ?_;rintro e v2 ⟨rfl,hs,hb⟩;have Se:=sh hs;have dt:=sh (bz.out.trans (hb.mono (by simp)));have ako:v2.cell? ⟨q,0,none⟩=some (.pointer (some ⟨g,0,none⟩)):=(dt.out.cell (p:=⟨q,0,none⟩) lq).trans c0;have amy:q<v2.heap.size:=aaf lq dt.out.size;have HL3:=sh (show w.heap.size+1<v2.heap.size from by have h9:=hb.size;have:=Dd.out;omega);have Yx:=sh (show Bk v2 w.heap.size 126 #[.int .i64 0,.int .i64 0,.int .i64 0,.string ⟨#[]⟩] from (hb.block w.heap.size (by simp)).trans pE.out);clear hs hb;go_wp2_with fail
 rw[abK];go_wp2_with fail
 refine(HR3.out _ dt.out (4*(no:Int)+3) (by omega)).mono ?_;rintro e w7 ⟨rfl,rfl⟩;go_wp2_with fail
 refine(jW _ _ _ _ _ Se.out (by have:=HZ.out;simp only[BY,ado,bY];omega) (by have:=dt.out.size;have:=HL3.out;omega)).mono ?_;rintro e v3 ⟨rfl,hs,hb⟩;have uM:=sh hs;have fx:=sh (dt.out.trans (hb.mono (by simp)));have akp:v3.cell? ⟨q,0,none⟩=some (.pointer (some ⟨g,0,none⟩)):=(fx.out.cell (p:=⟨q,0,none⟩) lq).trans c0;have amz:q<v3.heap.size:=aaf lq fx.out.size;have HL4:=sh (show w.heap.size+1<v3.heap.size from by have h9:=hb.size;have:=HL3.out;omega);have Yy:=sh (show Bk v3 w.heap.size 126 #[.int .i64 0,.int .i64 0,.int .i64 0,.string ⟨#[]⟩] from (hb.block w.heap.size (by simp)).trans Yx.out);clear hs hb;go_wp2_with fail
 rw[abK];go_wp2_with fail
 refine(xt _ _ _ _ uM.out (by have:=HL4.out;simp;omega)).mono ?_;rintro e w8 ⟨rfl,hb⟩;have ou:=sh (fx.out.trans (hb.mono (by simp)));have HP5:=sh (show Bk w8 w.heap.size 126 #[.int .i64 0,.int .i64 0,.int .i64 0,.string ⟨#[]⟩] from (hb.block w.heap.size (by simp)).trans Yy.out);clear hb;go_wp2_with fail
 (with_reducible refine(JU HU.out _ (rN.out.below ou.out)).mono ?_)
 rintro e w9 ⟨rfl,hb⟩;have TJ:=sh (ou.out.trans (hb.mono ou.out.size));have Uf:=sh (af HP5.out hb);clear hb;have lp:=Uf.out.lt;obtain⟨x0,x1,x2,x3⟩:=Uf.out.four;have f0:=Uf.out.frozen 0;have f1:=Uf.out.frozen 1;have f2:=Uf.out.frozen 2;have f3:=Uf.out.frozen 3;go_wp2_with fail
 obtain⟨u0,u1,u2,u3⟩:=Uf.out.GM (.int .i64 k) (.int .i64 no) (.int .i64 t) (.string b);refine abT (v:= .tuple #[.agg #[.int .i64 k,.int .i64 no,.int .i64 t,.string b],.int .i64 0]) (by simp[results,results156,go_sem,lp,u0,u1,u2,u3]) rfl ⟨rfl,?_⟩;have ho:ah [w.heap.size] w9 ((((w9.setCell ⟨w.heap.size,0,none⟩ (.int .i64 k)).setCell ⟨w.heap.size,1,none⟩ (.int .i64 no)).setCell ⟨w.heap.size,2,none⟩ (.int .i64 t)).setCell ⟨w.heap.size,3,none⟩ (.string b)):=
  ((((ah.refl _ _).setCell (.inl (by simp)) _).setCell (.inl (by simp)) _).setCell (.inl (by simp)) _).setCell (.inl (by simp)) _
 exact(((ah.ae TJ.out []).then ho (fun x hx=>by rw[By]at hx;subst hx;exact .inr (AS _))).alloc _).below (AS _) (by simp)
end Go.Proofs.YtjbcbnemdhbhbaaGreatDoor
namespace Go.Proofs.YtjbcbnemdhbhbaaGreatDoor
open Go.Proofs.Tryz
open Go.RowKit
structure Kv where
 t:Nat
 b:Nat
 q:Nat
 r:Nat
 g:Nat
 T:List Nat
 Sd:List Nat
 P:eR
 D:DevS
 s:St
 txn:Nat
 root:Int
 yk:Int
 limit:Nat
 U:List Nat
 pc:List Nat
 cF:ag
 rm:Nat
 bQ:Int
 over:Bool
 c2:IS
 c3:IS
 c4:IS
 ro:Option Obj
 base:Nat
 keep:List Nat
 held:Nat
def TC (txn n:Nat) (p:rO):IS:= .agg #[.int .i64 p.kind,.int .i64 n,.int .i64 txn,.string p.body]
def dI (txn:Nat) (d:ag):Int->Option IS:=fun i=>if 0<=i then (d i.toNat).map (TC txn i.toNat)else none
theorem jJ(txn:Nat)(d:ag)(n:Nat):dI txn d (n:Int)=(d n).map (TC txn n):=by
 unfold dI;rw[if_pos (by omega),Int.toNat_natCast]
theorem nC(txn:Nat)(d:ag)(n:Nat)(p:Option rO):(fun j=>if j=(n:Int)then p.map (TC txn n)else dI txn d j)=dI txn (Tr.cY d n p):=by
 funext j
 by_cases e:j=(n:Int)
 ·subst e;rw[if_pos rfl,jJ,Tr.fM]
 ·rw[if_neg e]
  unfold dI;by_cases h:0<=j
  ·rw[if_pos h,if_pos h,Tr.dM _ _ (by omega)]
  ·rw[if_neg h,if_neg h]
def Kv.upto (E:Kv):Int:=min ((E.txn:Int)-2) (E.s.dh ((E.txn:Int)-1))
abbrev aT (E:Kv) (x:Tx) (f dm:Nat) (lv fv:IS):Array IS:=
 #[.pointer (some ⟨E.b,0,none⟩),.int .i64 E.txn,.int .i64 E.txn,.int .i64 E.root,.int .i64 E.yk,.int .i64 x.aa,.int .i64 E.limit,.pointer (some ⟨f,0,none⟩),.map (some dm),lv,fv,.map (some E.rm),.int .i64 E.bQ,.bool E.over]
structure Kv.Ok (E:Kv):Prop where
 txn:2<=E.txn
 JO:E.txn<=1099511627776
 on:E.D.off=false
 steps:E.D.steps<=1000000000
 lim:(E.limit:Int)=E.P.m.l
 yI:∀n p,E.cF n=some p->n<E.limit/\∃t:Int,E.D.ve n p.kind t p.body
 upto:0<=E.upto
def aB (t f dm:Nat) (Sf:List Nat) (lv fv:IS):List Nat:=t::dm::(lv.ownBlock.toList++(fv.ownBlock.toList++Sf))
def Kv.still (E:Kv):List Nat:=E.b::E.q::E.r::0::(E.T++E.Sd)
def kG (o:Option Obj) (w:AI):Prop:=aO w/\w.heap[0]? =o
theorem kG.lt{o:Option Obj}{w:AI}(h:kG o w):0<w.heap.size:=h.1.lt
theorem kG.off{o:Option Obj}{S:List Nat}{w w':AI}(h:kG o w)(ho:ah S w w')(hS:0∉S):kG o w':=⟨h.1.off ho hS,(ho.block _ h.1.lt hS).trans h.2⟩
theorem kG.below{o:Option Obj}{w w':AI}(h:kG o w)(hb:No w.heap.size w w'):kG o w':=h.off (ah.ae hb []) (by simp)
structure bd (E:Kv) (w:AI) (S:List Nat) (hd:List Nat) (x:Tx) (f dm nn:Nat) (Sf:List Nat) (lv fv:IS):Prop where
 cells:Bk w E.t 103 (aT E x f dm lv fv)
 free:FL w f Sf x.fr
 map:IMap prog 3 w dm nn (dI E.txn x.ax)
 nn:nn<=600
 loose:w.ownsRow 0 3 1 lv x.loose.length (ints x.loose)
 aM:w.ownsRow 0 3 1 fv x.aM.length (ints x.aM)
 db:Bk w E.b 99 #[.pointer (some ⟨E.q,0,none⟩),.pointer (some ⟨E.r,0,none⟩),E.c2,E.c3,E.c4]
 rd:Bk w E.r 195 E.s.cells
 pg:Pg w E.q E.T E.g E.P
 dev:Dev w E.g E.Sd E.D
 row:kG E.ro w
 ok:x.Ok E.limit E.cF E.U E.pc hd
 blocks:S=aB E.t f dm Sf lv fv++E.still
 nodup:(aB E.t f dm Sf lv fv).Nodup
 apart:∀b∈aB E.t f dm Sf lv fv,b∉E.still
theorem bd.off{E:Kv}{w w':AI}{S U hd:List Nat}{x:Tx}{f dm nn:Nat}{Sf:List Nat}{lv fv:IS}(h:bd E w S hd x f dm nn Sf lv fv)(ho:ah U w w')(hU:∀b∈S,b∉U):bd E w' S hd x f dm nn Sf lv fv:=by
 have hm:∀b∈aB E.t f dm Sf lv fv,b∉U:=fun b hb=>hU b (by rw[h.blocks];exact AT.2 (.inl hb));have hs:∀b∈E.still,b∉U:=fun b hb=>hU b (by rw[h.blocks];exact AT.2 (.inr hb));have gI:=h.db;exact⟨ho.bk h.cells (hm _ (by simp[aB])),h.free.off ho (fun b hb=>hm b (by simp[aB,hb])),h.map.off ho (hm _ (by simp[aB])),h.nn,
  ho.own h.loose (fun b hb=>hm b (by simp[aB,hb])),ho.own h.aM (fun b hb=>hm b (by simp[aB,hb])),ho.bk gI (hs _ (by simp[Kv.still])),ho.bk h.rd (hs _ (by simp[Kv.still])),
  h.pg.off ho (fun b hb=>hs b (by simp[Kv.still,hb])),h.dev.off ho (fun b hb=>hs b (by simp[Kv.still,hb])),h.row.off ho (hs _ (by simp[Kv.still])),h.ok,h.blocks,h.nodup,h.apart⟩
theorem bd.old{E:Kv}{w:AI}{S hd:List Nat}{x:Tx}{f dm nn:Nat}{Sf:List Nat}{lv fv:IS}(h:bd E w S hd x f dm nn Sf lv fv):∀b∈S,b<w.heap.size:=by
 intro b hb;have gI:=h.db;rw[h.blocks]at hb;rcases AT.1 hb with hb|hb
 ·simp only[aB,IT,AT,Option.mem_toList]at hb
  rcases hb with rfl|rfl|hb|hb|hb
  ·exact h.cells.lt
  ·exact h.map.lt
  ·exact(abr h.loose b hb).2
  ·exact(abr h.aM b hb).2
  ·exact h.free.old b hb
 ·simp only[Kv.still,IT,AT]at hb
  rcases hb with rfl|rfl|rfl|rfl|hb|hb
  ·exact gI.lt
  ·obtain⟨_,_,hp⟩:=h.pg;exact hp.cells.lt
  ·exact h.rd.lt
  ·exact h.row.lt
  ·exact h.pg.old b hb
  ·exact h.dev.old b hb
def Tx.rest (x:Tx) (limit:Nat):Nat:=x.fr.length+(limit-x.aa)
structure Room (E:Kv) (F:Prop) (k:Nat) (x:Tx):Prop where
 sure:k<=x.sure E.limit E.upto.toNat
 eQ:∀y∈x.fr,y.1<E.txn
 base:F\/(E.base<=x.rest E.limit/\E.base+k<=x.rest E.limit+x.loose.length)
 m5:∀y∈x.fr,y.1<=E.upto.toNat->y.2∉E.keep
 jR:∀n,(n∈x.loose\/x.ax n≠none)->n∉E.keep
 m6:∀n∈E.keep,n<x.aa
 held:(x.fr.filter fun y=>decide (E.upto.toNat<y.1)).length<=E.held
theorem Room.less{E:Kv}{F:Prop}{k k':Nat}{x:Tx}(h:Room E F k x)(hk:k'<=k):Room E F k' x:=
 ⟨abE hk h.sure,h.eQ,h.base.imp id (fun⟨a,b⟩=>⟨a,by omega⟩),h.m5,h.jR,h.m6,h.held⟩
theorem Room.zero{E:Kv}{F:Prop}{k:Nat}{x:Tx}(h:Room E F k x):Room E F 0 x:=h.less (Nat.zero_le _)
theorem Room.other{E E':Kv}{F:Prop}{k:Nat}{x:Tx}(h:Room E F k x)(he:E'.limit=E.limit/\E'.s=E.s/\E'.txn=E.txn/\E'.base=E.base/\E'.keep=E.keep/\E'.held=E.held):Room E' F k x:=by
 obtain⟨e1,e2,e3,e4,e5,e6⟩:=he;have hu:E'.upto=E.upto:=by unfold Kv.upto;rw[e2,e3]
 exact⟨by rw[e1,hu];exact h.sure,by rw[e3];exact h.eQ,by rw[e1,e4];exact h.base,by rw[hu,e5];exact h.m5,by rw[e5];exact h.jR,by rw[e5];exact h.m6,by rw[hu,e6];exact h.held⟩
theorem Room.take{E:Kv}{F:Prop}{k n:Nat}{x x':Tx}(h:Room E F k x)(t:Tx.ei E.limit E.upto.toNat x n x')(hk:F\/1<=k):Room E F (k-1) x'/\n∉E.keep:=by
 have hs:=t.sure;have h1:=h.sure;cases t with
 | loose l n hl=>
  refine⟨⟨by omega,h.eQ,?_,h.m5,fun m hm=>h.jR m (hm.imp (fun h9=>by rw[hl];simp[h9]) id),h.m6,h.held⟩,h.jR n (.inl (by rw[hl];simp))⟩;rcases h.base with hb|⟨b1,b2⟩
  ·exact .inl hb
  ·rcases hk with hk|hk
   ·exact .inl hk
   ·rw[hl,BY,adC]at b2
    exact .inr ⟨b1,by show E.base+(k-1)<=x.rest E.limit+l.length;omega⟩
 | free f n r hl hf hu=>
  refine⟨⟨by omega,fun y hy=>h.eQ y (by rw[hf];simp[hy]),?_,fun y hy=>h.m5 y (by rw[hf];simp[hy]),h.jR,h.m6,by
   have h9:=h.held;rw[hf,List.filter_cons_of_neg (by simp;exact hu)]at h9;exact h9⟩,h.m5 (f,n) (by rw[hf];simp) hu⟩
  rcases h.base with hb|⟨b1,b2⟩
  ·exact .inl hb
  ·rcases hk with hk|hk
   ·exact .inl hk
   ·unfold Tx.rest at b1 b2 |-
    rw[hf,List.length_cons]at b1 b2;rw[hl,ado]at b2;exact .inr ⟨by show E.base<=r.length+(E.limit-x.aa);omega,by show E.base+(k-1)<=r.length+(E.limit-x.aa)+x.loose.length;omega⟩
 | more hl hf hp=>
  refine⟨⟨by omega,h.eQ,?_,h.m5,h.jR,fun m hm=>Nat.lt_succ_of_lt (h.m6 m hm),h.held⟩,fun hm=>Nat.lt_irrefl _ (h.m6 _ hm)⟩;rcases h.base with hb|⟨b1,b2⟩
  ·exact .inl hb
  ·rcases hk with hk|hk
   ·exact .inl hk
   ·unfold Tx.rest at b1 b2 |-
    rw[hl,ado]at b2;exact .inr ⟨by show E.base<=x.fr.length+(E.limit-(x.aa+1));omega,by show E.base+(k-1)<=x.fr.length+(E.limit-(x.aa+1))+x.loose.length;omega⟩
theorem Room.EA{E:Kv}{F:Prop}{k n:Nat}{x:Tx}(h:Room E F k x)(hd:x.ax n≠afm):Room E F k { x with ax:=Tr.cY x.ax n afm,loose:=x.loose++[n] }:=by
 have hb:F\/(E.base<=x.rest E.limit/\E.base+k<=x.rest E.limit+(x.loose++[n]).length):=by
  rcases h.base with h1|⟨h1,h2⟩
  ·exact .inl h1
  ·rw[BY,adC]
   exact .inr ⟨h1,by omega⟩
 refine⟨abE h.sure ?_,h.eQ,hb,h.m5,fun m hm=> ?_,h.m6,h.held⟩
 ·unfold Tx.sure
  simp only[BY,adC];omega
 ·rcases hm with hm|hm
  ·rcases AT.1 hm with hm|hm
   ·exact h.jR m (.inl hm)
   ·rw[By]at hm
    subst hm;exact h.jR _ (.inr hd)
  ·refine h.jR m (.inr fun e=>hm ?_)
   show Tr.cY x.ax n afm m=afm;unfold Tr.cY;split
   ·rfl
   ·exact e
theorem Room.lay{E:Kv}{F:Prop}{k n:Nat}{x:Tx}(h:Room E F k x)(hn:n∉E.keep)(p:rO):Room E F k { x with ax:=Tr.cY x.ax n (some p) }:=
 ⟨h.sure,h.eQ,h.base,h.m5,fun m hm=>by
  by_cases e:m=n
  ·rw[e];exact hn
  ·refine h.jR m (hm.imp id fun h9=> ?_)
   rwa [show ({ x with ax:=Tr.cY x.ax n (some p) }:Tx).ax m=x.ax m from Tr.dM _ _ e]at h9,h.m6,h.held⟩
theorem Room.free{E:Kv}{F:Prop}{k:Nat}{x:Tx}(h:Room E F k x)(l:List Nat):Room E F k { x with aM:=l }:=⟨h.sure,h.eQ,h.base,h.m5,h.jR,h.m6,h.held⟩
def gu (E:Kv) (F:Prop):aA where
 T:=111
 v:= .agg #[.pointer (some ⟨E.t,0,none⟩)]
 At w S σ k:=∃(x:Tx) (f dm nn:Nat) (Sf:List Nat) (lv fv:IS),bd E w S [] x f dm nn Sf lv fv/\ σ =x.book E.cF E.U/\Room E F k x
 F:=F
theorem pj{E:Kv}{w:AI}{S hd:List Nat}{x:Tx}{f dm nn:Nat}{Sf:List Nat}{lv fv:IS}(h:bd E w S hd x f dm nn Sf lv fv)(n:Nat)(hn:n<512)(W:AI)(ho:ah [] w W):
  (acW 100 (.map (some dm)) (.int .i64 n) true).run prog W= .ok (.tuple #[((x.ax n).map (TC E.txn n)).getD (.agg #[.int .i64 0,.int .i64 0,.int .i64 0,.string ⟨#[]⟩]),.bool (x.ax n).isSome]) W:=by
 have hm:=h.map.off ho (by simp);have h1:=hm.Ng underlying3 underlying100 (z:= .agg #[.int .i64 0,.int .i64 0,.int .i64 0,.string ⟨#[]⟩]) (by kernel_rfl) (i:=(n:Int)) (CD (by omega) (by omega));rw[jJ]at h1;rw[h1];cases x.ax n<;>rfl
theorem JY{E:Kv}{w:AI}{S hd:List Nat}{x:Tx}{f dm nn:Nat}{Sf:List Nat}{lv fv:IS}(h:bd E w S hd x f dm nn Sf lv fv)(n:Nat)(p:rO)(hp:x.ax n=some p):
  aag prog 318 #[.agg #[.pointer (some ⟨E.t,0,none⟩)],.int .i64 n] w (fun e w'=>No w.heap.size w w'/\∃a b:Int,e= .returned (.tuple #[.agg #[.int .i64 p.kind,.int .i64 a,.int .i64 b,.string p.body],.int .i64 0])):=by
 have hr:=h.ok.range.2.1 n (by rw[hp];simp);have hn:n<512:=by have:=h.ok.le;have:=h.ok.lim;omega
 have c0:=h.cells.cell 0;have c8:=h.cells.cell 8;have lt:=h.cells.lt;have hl:∀W,ah [] w W->(acW 100 (.map (some dm)) (.int .i64 n) true).run prog W= .ok (.tuple #[TC E.txn n p,.bool true]) W:=fun W hW=>by
  have:=pj h n hn W hW;rw[hp]at this;exact this
 have HL:=sh (hl ((w.alloc (.cells #[.pointer (some ⟨E.t,0,none⟩)] 111)).alloc (.cells #[.int .i64 0,.int .i64 0,.int .i64 0,.string ⟨#[]⟩] 126)) (((ah.refl [] w).alloc _).alloc _));unfold TC at HL;clear h hp hl;have Xp:=HL.out;go_enter func318,ntmps318
 go_wp2_with fail
 refine abT (v:= .tuple #[.agg #[.int .i64 p.kind,.int .i64 n,.int .i64 E.txn,.string p.body],.int .i64 0]) (by simp[results,results318,go_sem]) rfl ⟨?_,n,E.txn,rfl⟩;exact(((IN _ w).alloc (AS _) _).alloc (by simp) _).alloc (by simp;omega) _
theorem Fx{E:Kv}(hE:E.Ok){w:AI}{S hd:List Nat}{x:Tx}{f dm nn:Nat}{Sf:List Nat}{lv fv:IS}(h:bd E w S hd x f dm nn Sf lv fv)(n:Nat)(p:rO)(km:x.ax n=none)(hu:n∈E.U)(hp:E.cF n=some p):
  aag prog 318 #[.agg #[.pointer (some ⟨E.t,0,none⟩)],.int .i64 n] w (fun e w'=>No w.heap.size w w'/\∃a b:Int,e= .returned (.tuple #[.agg #[.int .i64 p.kind,.int .i64 a,.int .i64 b,.string p.body],.int .i64 0])):=by
 have hr:=h.ok.range.2.2.2.1 n hu;have hn:n<512:=by have:=h.ok.le;have:=h.ok.lim;omega
 have gI:=h.db;have c0:w.cell? ⟨E.t,0,none⟩=some (.pointer (some ⟨E.b,0,none⟩)):=h.cells.cell 0;have c8:w.cell? ⟨E.t,8,none⟩=some (.map (some dm)):=h.cells.cell 8;have d0:w.cell? ⟨E.b,0,none⟩=some (.pointer (some ⟨E.q,0,none⟩)):=gI.cell 0;have lb:=gI.lt;have lt:=h.cells.lt;obtain⟨kS,tt,vw⟩:=hE.yI n p hp;have hl:∀W,ah [] w W->(acW 100 (.map (some dm)) (.int .i64 n) true).run prog W= .ok (.tuple #[.agg #[.int .i64 0,.int .i64 0,.int .i64 0,.string ⟨#[]⟩],.bool false]) W:=fun W hW=>by
  have:=pj h n hn W hW;rw[km]at this;exact this
 have HL:=sh (hl ((w.alloc (.cells #[.pointer (some ⟨E.t,0,none⟩)] 111)).alloc (.cells #[.int .i64 0,.int .i64 0,.int .i64 0,.string ⟨#[]⟩] 126)) (((ah.refl [] w).alloc _).alloc _));have YA:=sh fun(W:AI) (hb:No w.heap.size w W)=>xe (h.pg.below hb) (h.dev.below hb) (h.row.below hb).1 hE.steps hE.on n hr.1 (by rw[<-hE.lim];omega) vw;clear h hp hl km hu hE vw gI kS;have Xp:=HL.out;have XC:E.t<w.heap.size+1:=by omega
 have Q4:E.t<w.heap.size+1+1:=by omega
 have lb1:E.b<w.heap.size+1:=by omega
 have lb2:E.b<w.heap.size+1+1:=by omega
 go_enter func318,ntmps318
 go_wp2_with fail
 (with_reducible refine(YA.out _ ?_).mono ?_)
 ·exact(((IN _ w).alloc (AS _) _).alloc (by simp) _).alloc (by simp;omega) _
 rintro e w1 ⟨rfl,ar⟩;have qq:(w.alloc (.cells #[.pointer (some ⟨E.t,0,none⟩)] 111)).heap.size=w.heap.size+1:=by simp
 have aU:=af ((Bk.new (w.alloc (.cells #[.pointer (some ⟨E.t,0,none⟩)] 111)) 126 #[.int .i64 0,.int .i64 0,.int .i64 0,.string ⟨#[]⟩]).alloc (.cells #[.int .i64 0,.int .i64 0,.int .i64 0,.string ⟨#[]⟩] 126)) ar;rw[qq]at aU;have qL:=sh aU;have HB:=sh ((((((IN _ w).alloc (AS _) (.cells #[.pointer (some ⟨E.t,0,none⟩)] 111)).alloc (by simp) (.cells #[.int .i64 0,.int .i64 0,.int .i64 0,.string ⟨#[]⟩] 126)).alloc (by simp;omega) (.cells #[.int .i64 0,.int .i64 0,.int .i64 0,.string ⟨#[]⟩] 126))).trans (ar.mono (by simp;omega)));obtain⟨x0,x1,x2,x3⟩:=aU.four;have f0:=aU.frozen 0;have f1:=aU.frozen 1;have f2:=aU.frozen 2;have f3:=aU.frozen 3;have lp:=aU.lt;clear ar aU qq;go_wp2_with fail
 obtain⟨u0,u1,u2,u3⟩:=qL.out.GM (.int .i64 p.kind) (.int .i64 n) (.int .i64 tt) (.string p.body);refine abT (v:= .tuple #[.agg #[.int .i64 p.kind,.int .i64 n,.int .i64 tt,.string p.body],.int .i64 0]) (by simp[results,results318,go_sem,lp,u0,u1,u2,u3]) rfl ⟨?_,n,tt,rfl⟩;have ho:ah [w.heap.size+1] w1 ((((w1.setCell ⟨w.heap.size+1,0,none⟩ (.int .i64 p.kind)).setCell ⟨w.heap.size+1,1,none⟩ (.int .i64 n)).setCell ⟨w.heap.size+1,2,none⟩ (.int .i64 tt)).setCell ⟨w.heap.size+1,3,none⟩ (.string p.body)):=
  ((((ah.refl _ _).setCell (.inl (by simp)) _).setCell (.inl (by simp)) _).setCell (.inl (by simp)) _).setCell (.inl (by simp)) _
 exact((ah.ae HB.out []).then ho (fun y hy=>by rw[By]at hy;subst hy;exact .inr (by omega))).below (AS _) (by simp)
theorem NB{w:AI}{base:Nat}{e:TypeId}{g c:Nat}{l:List Nat}{n:Nat}(h:w.ownsRow base e 1 (.slice (some ⟨g,0,none⟩) (l.length+1) c) (l.length+1) (ints (l++[n]))):w.ownsRow base e 1 (.slice (some ⟨g,0,none⟩) l.length c) l.length (ints l):=by
 rcases h.2 with⟨h1,h2⟩|⟨g',cap,cur,h1,hb,hh,hc,hm,hs,ht⟩
 ·cases h1
 ·injection h1 with e1 e2 e3
  injection e1 with e1;injection e1 with e1 _;subst e1 e3;refine⟨by simp[ints],.inr ⟨g,c,cur,rfl,hb,hh,by omega,hm,hs,?_⟩⟩;have h3:=congrArg (List.take (l.length*1)) ht;rw[List.take_take,show min (l.length*1) ((l.length+1)*1)=l.length*1 by omega]at h3;rw[h3,lW,Nat.mul_one];exact List.take_left' (oT l)
theorem bd.turn{E:Kv}{w w':AI}{S hd hd':List Nat}{x x':Tx}{f dm nn:Nat}{Sf:List Nat}{lv fv lv' fv':IS}(h:bd E w S hd x f dm nn Sf lv fv)(hc:Bk w' E.t 103 (aT E x' f dm lv' fv'))(ho:ah [E.t] w w')(bZ:x'.fr=x.fr)(hdy:x'.ax=x.ax)
  (hl:w'.ownsRow 0 3 1 lv' x'.loose.length (ints x'.loose)) (hf:w'.ownsRow 0 3 1 fv' x'.aM.length (ints x'.aM)) (e1:lv'.ownBlock=lv.ownBlock) (e2:fv'.ownBlock=fv.ownBlock) (fi:x'.Ok E.limit E.cF E.U E.pc hd'):bd E w' S hd' x' f dm nn Sf lv' fv':=by
 have hm:aB E.t f dm Sf lv' fv'=aB E.t f dm Sf lv fv:=by unfold aB;rw[e1,e2]
 have cg:=h.nodup;have bm:∀b∈E.still,b∉[E.t]:=fun b hb hs=>by
  rw[By]at hs;subst hs;exact h.apart _ (by simp[aB]) hb
 have vp:∀b∈dm::(lv.ownBlock.toList++(fv.ownBlock.toList++Sf)),b∉[E.t]:=fun b hb hs=>by
  rw[By]at hs;subst hs;exact(abN.1 cg).1 hb
 have gI:=h.db;exact⟨hc,by rw[bZ];exact h.free.off ho (fun b hb=>vp b (by simp[hb])),by rw[hdy];exact h.map.off ho (vp _ (by simp)),h.nn,hl,hf,ho.bk gI (bm _ (by simp[Kv.still])),ho.bk h.rd (bm _ (by simp[Kv.still])),
  h.pg.off ho (fun b hb=>bm b (by simp[Kv.still,hb])),h.dev.off ho (fun b hb=>bm b (by simp[Kv.still,hb])),h.row.off ho (bm _ (by simp[Kv.still])),fi,by rw[hm];exact h.blocks,by rw[hm];exact cg,by rw[hm];exact h.apart⟩
def jo (E:Kv) (S:List Nat) (hd:List Nat) (x':Tx) (w w':AI):Prop:=∃(S':List Nat) (f dm nn:Nat) (Sf:List Nat) (lv fv:IS),bd E w' S' hd x' f dm nn Sf lv fv/\ah S w w'/\aj w S S'
def mm (E:Kv) (S:List Nat) (hd:List Nat) (x:Tx) (w:AI) (e:Ending) (w':AI):Prop:=
 (∃(n:Nat) (x':Tx),e= .returned (.tuple #[.int .i64 n,.int .i64 0])/\Tx.ei E.limit E.upto.toNat x n x'/\jo E S (n::hd) x' w w')\/
 (e= .returned (.tuple #[.int .i64 0,.int .i64 9])/\x.sure E.limit E.upto.toNat=0/\jo E S hd x w w')
theorem EN{E:Kv}{w:AI}{S hd:List Nat}{x:Tx}{f dm nn:Nat}{Sf:List Nat}{lv fv:IS}(h:bd E w S hd x f dm nn Sf lv fv)(l:List Nat)(n:Nat)(hl:x.loose=l++[n]):
  aag prog 113 #[.pointer (some ⟨E.t,0,none⟩)] w (mm E S hd x w):=by
 have H:=sh h;have bc:=h.loose;rw[hl]at bc;obtain⟨A,c,hv,hA,dC⟩:=bg bc;obtain⟨g,rfl⟩:=hA (by simp);have hlen:(l++[n]).length=l.length+1:=by simp
 rw[hlen]at hv bc;rw[hv]at bc;obtain⟨lg,lt'⟩:=abr bc g rfl;have hel:w.cell? ⟨g,l.length,none⟩=some (.int .i64 n):=by
  have:=afw bc (g:=g) rfl l.length (.int .i64 n) (by simp[ints]);rw[bI,Nat.zero_add]at this;exact this
 have od:l.length+1<=c:=by
  rcases bc.2 with⟨h1,h2⟩|⟨g',cap,cur,h1,hb,hh,hc,hm,hs,ht⟩
  ·cases h1
  ·injection h1 with e1 e2 e3;omega
 have c9:w.cell? ⟨E.t,9,none⟩=some (.slice (some ⟨g,0,none⟩) (l.length+1) c):=by rw[<-hv];exact h.cells.cell 9
 have f9:=h.cells.frozen 9;have lt:=h.cells.lt;have HL:=sh hl;have HV:=sh hv;have pN:=sh (NB bc);obtain⟨m,hm⟩:∃m,m=l.length:=⟨_,rfl⟩;have HM:=sh hm;rw[<-hm]at hel c9 od;have QC:m<=9223372036854775806:=by unfold maxLen at dC;omega
 have CS:c<=9223372036854775807:=by unfold maxLen at dC;omega
 have z1:decide ((0:Int)<(m:Int)+1)=true:=decide_eq_true (by omega);have z2:decide (0<m+1)=true:=decide_eq_true (by omega);have e1:IntKind.i64.wrap ((m:Int)+1-1)=(m:Int):=by rw[IntKind.wrap_i64];omega
 clear h hl hv bc hlen dC hm lg;go_enter func113,ntmps113
 go_wp2_with fail
 go_ret2
 have ho:ah [E.t] w (w.setCell ⟨E.t,9,none⟩ (.slice (some ⟨g,0,none⟩) m c)):=(ah.refl [E.t] w).setCell (.inl (by simp)) _;have ey:Tx.ei E.limit E.upto.toNat x n { x with loose:=l }:=Tx.ei.loose x l n HL.out;have cg:=H.out.nodup;have Xl:g≠E.t:=fun e=>by
  have h1:=(abN.1 cg).1;rw[HV.out]at h1;exact h1 (by simp[aaU,e])
 have SK:∀b,fv.ownBlock=some b->b∉[E.t]:=fun b hb hs=>by
  rw[By]at hs;subst hs;exact(abN.1 cg).1 (by simp[hb])
 refine .inl ⟨n,_,rfl,ey,S,f,dm,nn,Sf,.slice (some ⟨g,0,none⟩) m c,fv,H.out.turn (x':={ x with loose:=l }) ?_ ho rfl rfl ?_ (ho.own H.out.aM SK) (by rw[HV.out];rfl) rfl (ey.ok H.out.ok),ho.mono (fun b hb=> .inl ?_),aj.refl _ _⟩
 ·have:=H.out.cells.put 9 (.slice (some ⟨g,0,none⟩) m c)
  exact this
 ·have h9:=ho.own pN.out (fun b hb hs=>by
   have e:g=b:=by simpa[aaU]using hb
   rw[By]at hs;exact Xl (e.trans hs))
  rw[<-HM.out]at h9;show World.ownsRow _ 0 _ 1 _ l.length (ints l);rw[<-HM.out];exact h9
 ·rw[By]at hb
  subst hb;rw[H.out.blocks];simp[aB]
theorem bd.take{E:Kv}{w w':AI}{S hd:List Nat}{x:Tx}{f dm nn:Nat}{Sf:List Nat}{lv fv:IS}(h:bd E w S hd x f dm nn Sf lv fv){y:Nat×Nat}{r:List (Nat×Nat)}(bZ:x.fr=y::r)(hf:FL w' f Sf r)(ho:ah Sf w w')(hl:x.loose=[])(hu:(y.1:Int)<=E.upto)(hE:E.Ok):
  Tx.ei E.limit E.upto.toNat x y.2 { x with fr:=r }/\jo E S (y.2::hd) { x with fr:=r } w w':=by
 have ey:Tx.ei E.limit E.upto.toNat x y.2 { x with fr:=r }:=Tx.ei.free x y.1 y.2 r hl bZ (by have:=hE.upto;omega);have hm:∀b∈E.t::dm::(lv.ownBlock.toList++fv.ownBlock.toList),b∉Sf:=fun b hb hs=>by
  have hn:=h.nodup;have e:aB E.t f dm Sf lv fv=(E.t::dm::(lv.ownBlock.toList++fv.ownBlock.toList))++Sf:=by simp[aB]
  rw[e]at hn;exact(aai.1 hn).2.2 b hb b hs rfl
 have bm:∀b∈E.still,b∉Sf:=fun b hb hs=>h.apart b (by simp[aB,hs]) hb;have gI:=h.db;refine⟨ey,S,f,dm,nn,Sf,lv,fv,⟨ho.bk h.cells (hm _ (by simp)),hf,h.map.off ho (hm _ (by simp)),h.nn,ho.own h.loose (fun b hb=>hm b (by simp[hb])),ho.own h.aM (fun b hb=>hm b (by simp[hb])),ho.bk gI (bm _ (by simp[Kv.still])),ho.bk h.rd (bm _ (by simp[Kv.still])),
  h.pg.off ho (fun b hb=>bm b (by simp[Kv.still,hb])),h.dev.off ho (fun b hb=>bm b (by simp[Kv.still,hb])),h.row.off ho (bm _ (by simp[Kv.still])),ey.ok h.ok,h.blocks,h.nodup,h.apart⟩,ho.mono (fun b hb=> .inl (by rw[h.blocks];simp[aB,hb])),aj.refl _ _⟩
theorem Jl{E:Kv}(hE:E.Ok){w:AI}{S hd:List Nat}{x:Tx}{f dm nn:Nat}{Sf:List Nat}{lv fv:IS}(h:bd E w S hd x f dm nn Sf lv fv)(hl:x.loose=[]):
  aag prog 113 #[.pointer (some ⟨E.t,0,none⟩)] w (mm E S hd x w):=by
 have H:=sh h;have HL:=sh hl;have bc:=h.loose;rw[hl]at bc;obtain⟨A,c,hv,hA,dC⟩:=bg bc;have c9:w.cell? ⟨E.t,9,none⟩=some (.slice A 0 c):=by have:=h.cells.cell 9;rw[hv]at this;exact this
 have c1:w.cell? ⟨E.t,1,none⟩=some (.int .i64 E.txn):=h.cells.cell 1;have lt:=h.cells.lt;have gI:=h.db;have HK:=sh fun(W:AI) (ho:ah Sf w W)=>(show W.cell? ⟨E.t,7,none⟩=some (.pointer (some ⟨f,0,none⟩))/\W.cell? ⟨E.t,0,none⟩=some (.pointer (some ⟨E.b,0,none⟩))/\W.cell? ⟨E.b,1,none⟩=some (.pointer (some ⟨E.r,0,none⟩)) from by
  have ht:E.t∉Sf:=fun hs=>(abN.1 h.nodup).1 (by simp[hs]);have hb:E.b∉Sf:=fun hs=>h.apart E.b (by simp[aB,hs]) (by simp[Kv.still]);exact⟨(ho.bk h.cells ht).cell 7,(ho.bk h.cells ht).cell 0,(ho.bk gI hb).cell 1⟩)
 have HO:=sh fun(W:AI) (hb:No w.heap.size w W)=>EJ E.r ((E.txn:Int)-1) E.s W (af h.rd hb);have hu:E.upto=min ((E.txn:Int)-2) (E.s.dh ((E.txn:Int)-1)):=rfl;obtain⟨o,Gd⟩:∃o,o=E.s.dh ((E.txn:Int)-1):=⟨_,rfl⟩;rw[<-Gd]at HO hu;have t2:=hE.txn;have t3:=hE.JO;have hu0:=hE.upto;have QE:min (IntKind.i64.wrap ((E.txn:Int)-1-1)) o=E.upto:=by rw[hu,IntWalk.i64_in _ (by omega)];omega
 obtain⟨u,hu9⟩:∃u,u=E.upto:=⟨_,rfl⟩;have HU:=sh hu9;rw[<-hu9]at QE hu0;clear hl bc hv hA dC gI hu Gd hu9;have HFS:=sh (show f∈Sf from h.free.yA);by_cases hy:∃y r,x.fr=y::r/\(y.1:Int)<=u
 ·obtain⟨y,r,bZ,hyu⟩:=hy
  have hp:y.2<512:=by have:=(h.ok.range.1 y.2 (by rw[bZ];simp[Fr.pg])).2;have:=h.ok.le;have:=h.ok.lim;omega
  have cg:(Fr.pg (y::r)).Nodup:=by
   obtain⟨dk,k1,k2⟩:=h.ok.perm;have:=(aai.1 (h.ok.nodup k2)).1;rw[bZ]at this;exact this
  have HT:=sh fun(W:AI) (hb:No w.heap.size w W)=>Io (S:=Sf) (by have:=h.free.below hb;rw[bZ]at this;exact this) u hyu hp cg;have zb:=sh bZ;have HYU:=sh hyu;obtain⟨n,hn⟩:∃n,n=y.2:=⟨_,rfl⟩;have HN:=sh hn;rw[<-hn]at HT;clear h bZ hyu hp cg hn;go_enter func113,ntmps113
  go_wp2_with fail
  go_region_held3 (fun W=>W.cell? ⟨E.t,7,none⟩=some (.pointer (some ⟨f,0,none⟩))/\W.cell? ⟨E.t,0,none⟩=some (.pointer (some ⟨E.b,0,none⟩))/\W.cell? ⟨E.b,1,none⟩=some (.pointer (some ⟨E.r,0,none⟩))) (first|(refine HK.out _ ?_;with_reducible (first|exact(ah.refl _ _).drew|exact iN.out|exact gW.out))|fail) (first
   | (go_at_call 170;(with_reducible refine(HO.out _ (IN _ _).drew).mono ?_);rintro e w1 ⟨rfl,ar⟩;have bh:=sh (show No w.heap.size w w1 from (IN _ _).drew.trans ar);have iN:=sh (ah.ae bh.out Sf);clear ar)
   | (go_at_call 169;(with_reducible refine(HT.out _ bh.out).mono ?_);rintro e w2 ⟨rfl,Mb,kU⟩;have uL:=sh Mb;have gW:=sh (iN.out.then kU (fun b hb=>by rw[By]at hb;subst hb;exact .inl HFS.out));clear Mb kU))
  all_goals
   have cZ:=gW.out.size;have j5:=sh (bd.take H.out zb.out uL.out gW.out HL.out (by rw[<-HU.out];exact HYU.out) hE);go_wp2_with fail
   go_ret2
   exact .inl ⟨n,_,rfl,by rw[HN.out];exact j5.out.1,by rw[HN.out];exact j5.out.2⟩
 ·have iP:∀y r,x.fr=y::r->u<y.1:=fun y r hh=>by
   by_cases hc:(y.1:Int)<=u
   ·exact absurd ⟨y,r,hh,hc⟩ hy
   ·omega
  have HT:=sh fun(W:AI) (hb:No w.heap.size w W)=>LP (S:=Sf) (h.free.below hb) u iP;have HNO:=sh iP;have hle:=h.ok.le;have kS:=h.ok.lim;obtain⟨pn,hpn⟩:∃pn,pn=x.aa:=⟨_,rfl⟩;obtain⟨lm,uW⟩:∃lm,lm=E.limit:=⟨_,rfl⟩;have HPN:=sh hpn;have J8:=sh uW;have HC:=sh fun(W:AI) (hb:No w.heap.size w W)=>(show W.cell? ⟨E.t,5,none⟩=some (.int .i64 pn)/\W.cell? ⟨E.t,6,none⟩=some (.int .i64 lm)/\E.t<W.heap.size/\W.frozen? ⟨E.t,5,none⟩=false from by
   have:=af h.cells hb;rw[hpn,uW];exact⟨this.cell 5,this.cell 6,this.lt,this.frozen 5⟩)
  rw[<-hpn,<-uW]at hle;rw[<-uW]at kS;have Dd:=sh HL.out;clear h iP hy hpn uW;by_cases aaw:pn<lm
  ·have z1:decide ((lm:Int)<=(pn:Int))=false:=decide_eq_false (by omega)
   have z2:decide (lm<=pn)=false:=decide_eq_false (by omega);go_enter func113,ntmps113
   go_wp2_with fail
   go_region_held3 (fun W=>W.cell? ⟨E.t,7,none⟩=some (.pointer (some ⟨f,0,none⟩))/\W.cell? ⟨E.t,0,none⟩=some (.pointer (some ⟨E.b,0,none⟩))/\W.cell? ⟨E.b,1,none⟩=some (.pointer (some ⟨E.r,0,none⟩))) (first|(refine HK.out _ ?_;with_reducible (first|exact(ah.refl _ _).drew|exact iN.out))|fail) (first
    | (go_at_call 170;(with_reducible refine(HO.out _ (IN _ _).drew).mono ?_);rintro e w1 ⟨rfl,ar⟩;have bh:=sh (show No w.heap.size w w1 from (IN _ _).drew.trans ar);have iN:=sh (ah.ae bh.out Sf);clear ar)
    | (go_at_call 169;(with_reducible refine(HT.out _ bh.out).mono ?_);rintro e w2 ⟨rfl,rfl⟩))
   all_goals
    obtain⟨q5,q6,q7,q8⟩:=HC.out _ bh.out;go_wp2_with fail
    go_quiet (fail)
    go_wp2_with fail
    go_ret2
    have h1:=H.out.off ((ah.ae bh.out []).drewN nq) (by simp);have ey:Tx.ei E.limit E.upto.toNat x x.aa { x with aa:=x.aa+1 }:=Tx.ei.more x Dd.out (fun y r hh=>by have:=HNO.out y r hh;have:=HU.out;omega) (by rw[<-HPN.out,<-J8.out];exact aaw);have ho:ah [E.t] (w1.drewN nq) ((w1.drewN nq).setCell ⟨E.t,5,none⟩ (.int .i64 (pn+1))):=(ah.refl [E.t] _).setCell (.inl (by simp)) _;have hnt:E.t∉(lv.ownBlock.toList++fv.ownBlock.toList):=fun hs=>(abN.1 H.out.nodup).1 (by
     rcases AT.1 hs with hs|hs<;>simp only[IT,AT,hs,true_or,or_true])
    refine .inl ⟨x.aa,_,congrArg (fun z:Nat=>Ending.returned (.tuple #[.int .i64 (z:Int),.int .i64 0])) HPN.out,ey,S,f,dm,nn,Sf,lv,fv,h1.turn (x':={ x with aa:=x.aa+1 }) ?_ ho rfl rfl (ho.own h1.loose (fun b hb hs=> ?_)) (ho.own h1.aM (fun b hb hs=> ?_)) rfl rfl (ey.ok H.out.ok),?_,aj.refl _ _⟩
    ·have:=h1.cells.put 5 (.int .i64 (pn+1))
     rw[HPN.out]at this |-;exact this
    ·rw[By]at hs;subst hs;exact hnt (by simp[hb])
    ·rw[By]at hs;subst hs;exact hnt (by simp[hb])
    ·exact((ah.ae bh.out S).drewN nq).then ho (fun b hb=> .inl (by rw[By]at hb;subst hb;rw[H.out.blocks];simp[aB]))
  ·have z1:decide ((lm:Int)<=(pn:Int))=true:=decide_eq_true (by omega)
   have z2:decide (lm<=pn)=true:=decide_eq_true (by omega);go_enter func113,ntmps113
   go_wp2_with fail
   go_region_held3 (fun W=>W.cell? ⟨E.t,7,none⟩=some (.pointer (some ⟨f,0,none⟩))/\W.cell? ⟨E.t,0,none⟩=some (.pointer (some ⟨E.b,0,none⟩))/\W.cell? ⟨E.b,1,none⟩=some (.pointer (some ⟨E.r,0,none⟩))) (first|(refine HK.out _ ?_;with_reducible (first|exact(ah.refl _ _).drew|exact iN.out))|fail) (first
    | (go_at_call 170;(with_reducible refine(HO.out _ (IN _ _).drew).mono ?_);rintro e w1 ⟨rfl,ar⟩;have bh:=sh (show No w.heap.size w w1 from (IN _ _).drew.trans ar);have iN:=sh (ah.ae bh.out Sf);clear ar)
    | (go_at_call 169;(with_reducible refine(HT.out _ bh.out).mono ?_);rintro e w2 ⟨rfl,rfl⟩))
   all_goals
    obtain⟨q5,q6,q7,q8⟩:=HC.out _ bh.out;go_wp2_with fail
    go_quiet (fail)
    go_wp2_with fail
    go_ret2
    exact .inr ⟨rfl,Tx.Ff Dd.out (fun y r hh=>by have:=HNO.out y r hh;have:=HU.out;omega) (by rw[<-HPN.out,<-J8.out];omega),S,f,dm,nn,Sf,lv,fv,H.out.off ((ah.ae bh.out []).drewN nq) (by simp),(ah.ae bh.out S).drewN nq,aj.refl _ _⟩
theorem BN{E:Kv}(hE:E.Ok){w:AI}{S hd:List Nat}{x:Tx}{f dm nn:Nat}{Sf:List Nat}{lv fv:IS}(h:bd E w S hd x f dm nn Sf lv fv):
  aag prog 113 #[.pointer (some ⟨E.t,0,none⟩)] w (mm E S hd x w):=by
 rcases List.eq_nil_or_concat x.loose with hl|⟨l,n,hl⟩
 ·exact Jl hE h hl
 ·exact EN h l n (by rw[hl,List.concat_eq_append])
end Go.Proofs.YtjbcbnemdhbhbaaGreatDoor
