import Derived.Test.YtjbcbnemdhbhbaaGreatDoorB39
import Derived.Test.YtjbcbnemdhbhbaaGreatDoorB31
import Derived.Test.YtjbcbnemdhbhbaaGreatDoorB12
import Derived.Test.YtjbcbnemdhbhbaaGreatDoorB5
import Derived.Test.YtjbcbnemdhbhbaaGreatDoorB6
import Derived.Test.YtjbcbnemdhbhbaaGreatDoorB25
import Derived.Test.YtjbcbnemdhbhbaaGreatDoorB30
set_option maxRecDepth 100000
set_option linter.unusedVariables false
set_option linter.unusedSimpArgs false
set_option maxHeartbeats 40000000
open Go renaming Calls→aag,Value→IS,World→AI
open Go.Lib renaming hid→sh
open Go.RowKit renaming Below→No
open Go.RowKit.Below renaming refl→IN
open Go.World.ownsRow renaming lt→abr
open List renaming mem_append→AT,mem_singleton→By
open Nat renaming le_refl→AS,le_trans→abE,lt_of_lt_of_le→aaf
namespace Go.Proofs.YtjbcbnemdhbhbaaGreatDoor
open Go.Proofs.Tryz
open Go.RowKit
structure Di where
 b:Nat
 q:Nat
 r:Nat
 f:Nat
 g:Nat
 T:List Nat
 Sf:List Nat
 P:eR
 s:St
 fr:List (Nat×Nat)
 pv:IS
 m7:List Nat
 wv:IS
def Di.blocks (d:Di):List Nat:=d.b::d.r::(d.T++(d.Sf++d.pv.ownBlock.toList))
structure gK (w:AI) (d:Di):Prop where
 top:Bk w d.b 99 #[.pointer (some ⟨d.q,0,none⟩),.pointer (some ⟨d.r,0,none⟩),.pointer (some ⟨d.f,0,none⟩),d.pv,d.wv]
 pg:Pg w d.q d.T d.g d.P
 rd:Bk w d.r 195 d.s.cells
 free:FL w d.f d.Sf d.fr
 m7:w.ownsRow 0 3 1 d.pv d.m7.length (ints d.m7)
 bo:d.b∉d.T++(d.Sf++d.pv.ownBlock.toList)
 ro:d.r∉d.T++(d.Sf++d.pv.ownBlock.toList)
theorem gK.off{w w':AI}{d:Di}{U:List Nat}(h:gK w d)(ho:ah U w w')(hU:∀x∈d.blocks,x∉U):gK w' d:=
 ⟨ho.bk h.top (hU _ (by simp[Di.blocks])),h.pg.off ho (fun x hx=>hU x (by simp[Di.blocks,hx])),ho.bk h.rd (hU _ (by simp[Di.blocks])),h.free.off ho (fun x hx=>hU x (by simp[Di.blocks,hx])),ho.own h.m7 (fun x hx=>hU x (by simp[Di.blocks,hx])),h.bo,h.ro⟩
theorem gK.below{w w':AI}{d:Di}(h:gK w d)(hb:No w.heap.size w w'):gK w' d:=h.off (ah.ae hb []) (by simp)
theorem gK.old{w:AI}{d:Di}(h:gK w d):∀x∈d.blocks,x<w.heap.size:=by
 intro x hx;simp only[Di.blocks,List.mem_cons,AT,Option.mem_toList]at hx;rcases hx with rfl|rfl|hx|hx|hx
 ·exact h.top.lt
 ·exact h.rd.lt
 ·exact h.pg.old x hx
 ·exact h.free.old x hx
 ·exact(abr h.m7 x hx).2
theorem gK.pk{w w':AI}{d:Di}(h:gK w d){s':St}(ho:ah [d.r] w w')(hr:Bk w' d.r 195 s'.cells):gK w' { d with s:=s' }:=by
 have Sz:d.b≠d.r:=h.top.ne h.rd (by decide);have bL:∀x,x∈d.T++(d.Sf++d.pv.ownBlock.toList)->x∉[d.r]:=fun x hx he=>by
  rw[By]at he;subst he;exact h.ro hx
 exact⟨ho.bk h.top (by simpa using Sz),h.pg.off ho (fun x hx=>bL x (by simp[hx])),hr,h.free.off ho (fun x hx=>bL x (by simp[hx])),ho.own h.m7 (fun x hx=>bL x (by simp[hx])),h.bo,h.ro⟩
theorem sW{w:AI}{d:Di}(h:gK w d):aag prog 14 #[.pointer (some ⟨d.b,0,none⟩)] w (FH d.P.m w):=by
 obtain⟨b,q,r,f,g,T,Sf,P,s,fr,pv,m7,wv⟩:=d;have c0:w.cell? ⟨b,0,none⟩=some (.pointer (some ⟨q,0,none⟩)):=h.top.cell 0;have lb:b<w.heap.size:=h.top.lt;have HP:=sh (mN (h.pg.below ((IN _ w).alloc (AS _) (.cells #[.int .i64 0,.int .i64 0,.int .i64 0,.int .i64 0,.int .i64 0] 40))));clear h;simp only at HP |-;go_enter func14,ntmps14
 go_wp2_with fail
 refine HP.out.mono ?_;rintro e w1 ⟨rfl,ar⟩;have hz:=af (Bk.new w 40 #[.int .i64 0,.int .i64 0,.int .i64 0,.int .i64 0,.int .i64 0]) ar;have HZ:=sh hz;have HB:=sh (((IN _ w).alloc (AS _) (.cells #[.int .i64 0,.int .i64 0,.int .i64 0,.int .i64 0,.int .i64 0] 40)).trans (ar.mono (by simp)));have lz:=hz.lt;obtain⟨x0,x1,x2,x3,x4⟩:=hz.oH;have y0:=hz.frozen 0;have y1:=hz.frozen 1;have y2:=hz.frozen 2;have y3:=hz.frozen 3;have y4:=hz.frozen 4;clear hz ar;go_wp2_with fail
 obtain⟨s0,s1,s2,s3,s4⟩:=HZ.out.GL (.int .i64 P.m.t) (.int .i64 P.m.r) (.int .i64 P.m.f) (.int .i64 P.m.p) (.int .i64 P.m.l);refine bodyPost_ret (v:= .agg #[.int .i64 P.m.t,.int .i64 P.m.r,.int .i64 P.m.f,.int .i64 P.m.p,.int .i64 P.m.l]) (by simp[results,results14,go_sem,lz,s0,s1,s2,s3,s4]) rfl ⟨rfl,?_⟩;exact((ah.ae HB.out []).then ((((((ah.refl [w.heap.size] w1).setCell (.inl (by simp)) _).setCell (.inl (by simp)) _).setCell (.inl (by simp)) _).setCell (.inl (by simp)) _).setCell (.inl (by simp)) _) (fun x hx=>by rw[By]at hx;subst hx;exact .inr (AS _))).below (AS _) (by simp)
def iV (w:AI) (s b:Nat) (i:Int) (m:aL) (pv:IS) (over:Bool):Prop:=Bk w s 115 #[.pointer (some ⟨b,0,none⟩),.int .i64 i,.int .i64 m.t,.int .i64 m.r,.int .i64 m.f,.int .i64 m.p,.int .i64 m.l,pv,.bool over]
theorem yl{w:AI}{sp b:Nat}{i:Int}{m:aL}{pv:IS}(h:iV w sp b i m pv false):aag prog 57 #[.pointer (some ⟨sp,0,none⟩)] w (fun e w'=>e= .returned (.int .i64 0)/\w=w'):=by
 have c8:=Bk.cell h 8;have ls:=Bk.lt h;clear h;go_enter func57,ntmps57
 go_wp2_with fail
 go_ret
 exact⟨rfl,rfl⟩
theorem WA{w:AI}{d:Di}{s':St}{i:Int}(h:gK w d)(hE:d.s.enter d.P.m.t=(s',i,0)):aag prog 15 #[.pointer (some ⟨d.b,0,none⟩)] w (fun e w'=>∃sp,e= .returned (.tuple #[.pointer (some ⟨sp,0,none⟩),.int .i64 0])/\ah [d.r] w w'/\gK w' { d with s:=s' }/\iV w' sp d.b i d.P.m d.pv false/\w.heap.size<=sp):=by
 have HD:=sh h;have HM:=sh (sW (h.below (IN _ w).drew));have Dg:=sh fun(W:AI) (hW:gK W { d with s:=s' })=>(show aag prog 14 #[.pointer (some ⟨d.b,0,none⟩)] W (FH d.P.m W) from sW (d:={ d with s:=s' }) hW);have J6:=sh fun(W:AI) (hW:No w.heap.size w W)=>(show aag prog 56 #[.pointer (some ⟨d.r,0,none⟩),.int .i64 d.P.m.t] W (ez i 0 d.r s'.cells W) from by have:=wB d.r d.P.m.t d.s W (af h.rd hW);rw[hE]at this;exact this);have Sz:d.b≠d.r:=h.top.ne h.rd (by decide);have bH:=sh (show ∀W,ah [d.r] w W->W.cell? ⟨d.b,1,none⟩=some (.pointer (some ⟨d.r,0,none⟩)) from fun W hW=>(hW.bk h.top (by simpa using Sz)).cell 1);obtain⟨Ap,cp,IM,-,-⟩:=bg h.m7;obtain⟨n,hn⟩:∃n,n=d.m7.length:=⟨_,rfl⟩;rw[<-hn]at IM;obtain⟨b,q,r,f,g,T,Sf,P,s,fr,pv,m7,wv⟩:=d;have lb:b<w.heap.size:=h.top.lt;have hf0:=Nl;simp only at HD HM Dg J6 bH IM |-;subst IM;clear hn;clear h hE Sz;go_enter func15,ntmps15
 go_wp2_with fail
 go_region_held3 (fun W=>W.cell? ⟨b,1,none⟩=some (.pointer (some ⟨r,0,none⟩))) (first|exact bH.out _ (ah.refl _ _).drew|exact bH.out _ dw.out|exact bH.out _ bO.out) (first
  | (go_at_call 14;refine HM.out.mono ?_;rintro e w1 ⟨rfl,ar⟩;have bh:=sh (show No w.heap.size w w1 from (IN _ w).drew.trans ar);have dw:=sh (ah.ae bh.out [r]);clear ar)
  | (go_at_call 56;refine(J6.out _ bh.out).mono ?_;rintro e w2 ⟨rfl,om,kU⟩;have gM:=sh om;have bO:=sh (dw.out.trans kU);clear om kU))
 all_goals
  have mE:=HD.out.pk bO.out gM.out;have OL:=sh (Dg.out _ (mE.below (IN _ w2).drew));have uK:=sh mE;have lb2:b<w2.heap.size:=mE.top.lt;have sK:=sh (show ∀W,No w2.heap.size w2 W->W.cell? ⟨b,3,none⟩=some (.slice Ap n cp) from fun W hW=>(af uK.out.top hW).cell 3);clear mE;go_wp2_with fail
  go_region_held3 (fun W=>W.cell? ⟨b,3,none⟩=some (.slice Ap n cp)) (first|exact sK.out _ (IN _ _).drew|exact sK.out _ dx.out|exact sK.out _ (dx.out.alloc dx.out.size _)) (first
   | (go_at_call 14;refine OL.out.mono ?_;rintro e w3 ⟨rfl,aQ⟩;have dx:=sh (show No w2.heap.size w2 w3 from (IN _ w2).drew.trans aQ);clear aQ))
  all_goals
   go_wp2_with fail
   go_ret2
   exact⟨w3.heap.size,rfl,(bO.out.trans (ah.ae dx.out [r])).alloc _,(uK.out.below dx.out).off ((ah.refl [] _).alloc _) (by simp),Bk.new w3 _ _,abE bO.out.size dx.out.size⟩
structure aei (B gc nc cc:Nat) (v0:IS) (cs:List Ce) (w:AI) (l:List Nat) (wr:AI) (v:IS):Prop where
 own:wr.ownsRow B 3 1 v l.length (ints l)
 cells:aZ wr w.heap.size (.slice (some ⟨gc,0,none⟩) nc cc) cs
 off:ah v0.ownBlock.toList w wr
 block:∀g,v.ownBlock=some g->v0.ownBlock=some g\/w.heap.size<=g
 ne:v.ownBlock≠some gc
structure SnapOn (w:AI) (sp b:Nat) (K:Kr) (i:Int) (m:aL) (pv:IS) (Fo:Forest):Prop where
 snap:iV w sp b i m pv false
 db:∃cs,Bk w b 99 cs/\cs[0]? =some (.pointer (some ⟨K.q,0,none⟩))
 ok:K.Ok
 pg:Pg w K.q K.T K.g K.P
 dev:Dev w K.g K.Sd K.D
 row:aO w
 fo:Fo.Ok K.cF
 told:∀n,Fo.R n=none
 root:m.r=Fo.main.root
def Kr.blocks (K:Kr):List Nat:=K.q::0::(K.T++K.Sd)
theorem SnapOn.at_{w:AI}{sp b:Nat}{K:Kr}{i:Int}{m:aL}{pv:IS}{Fo:Forest}(h:SnapOn w sp b K i m pv Fo):(dj K).At w K.blocks K.cF 0:=⟨h.pg,h.dev,h.row,rfl,rfl,rfl⟩
theorem SnapOn.below{w w':AI}{sp b:Nat}{K:Kr}{i:Int}{m:aL}{pv:IS}{Fo:Forest}(h:SnapOn w sp b K i m pv Fo)(hb:No w.heap.size w w'):SnapOn w' sp b K i m pv Fo:=by
 obtain⟨cs,h1,h2⟩:=h.db;obtain⟨p1,p2,p3,-⟩:=(bT h.ok).below h.at_ hb;exact⟨af h.snap hb,⟨cs,af h1 hb,h2⟩,h.ok,p1,p2,p3,h.fo,h.told,h.root⟩
theorem lh.more{p:aA}(hp:Reads p){S:List Nat}{σ :ag}{c root:Nat}{R R':List Nat}{w w':AI}{U:List Nat}{v:IS}{ls:List (Lv×Rw)}{X:List Nat}(h:lh p S σ c root R w U v ls)(ho:ah X w w')(hX:∀b∈X,b∈R)(hR:∀b∈R',b<w'.heap.size/\(b∈R\/w.heap.size<=b)):lh p S σ c root R' w' U v ls where
 aa:=hp.off h.aa ho fun b hb hx=>(h.sep b hb).2 (hX b hx)
 top:=ho.bk h.top fun hx=>h.Ks c h.mem (hX c hx)
 row:=ho.own h.row fun g hg hx=>h.Ks g (h.jC g hg) (hX g hx)
 jC:=h.jC
 mem:=h.mem
 lt:=fun b hb=>aaf (h.lt b hb) ho.size
 TD:=fun b hb=>(hR b hb).1
 sep:=fun b hb=>⟨(h.sep b hb).1,fun hr=>(hR b hr).2.elim (h.sep b hb).2 (fun h9=>by have:=hp.old h.aa b hb;omega)⟩
 Ks:=fun b hb hr=>(hR b hr).2.elim (h.Ks b hb) (fun h9=>by have:=h.lt b hb;omega)
 cells:=fun x hx=>(h.cells x hx).keep ho.size (fun b hb aI=>ho.block b aI fun hh=>hb.2 (hX b hh)) (fun b hb aI=>⟨hb.1,fun hr=>(hR b hr).2.elim hb.2 (fun h9=>by omega)⟩)
theorem fQ.more{p:aA}(hp:Reads p){S:List Nat}{σ :ag}{c root:Nat}{R R':List Nat}{L:List En}{w w':AI}{U:List Nat}{o:Option Nat}{X:List Nat}(h:fQ p S σ c root R L w U o)(ho:ah X w w')(hX:∀b∈X,b∈R)(hR:∀b∈R',b<w'.heap.size/\(b∈R\/w.heap.size<=b)):fQ p S σ c root R' L w' U o:=by
 obtain⟨v,ls,h1,h2⟩:=h;exact⟨v,ls,h1.more hp ho hX hR,h2⟩
def ek (L:List En):List IS:=L.map fun e=> .string e.cell.key
theorem zX{L:List En}{j:Nat}(h:j<L.length):ek (L.take (j+1))=ek (L.take j)++[.string L[j].cell.key]:=by
 unfold ek;rw[List.take_succ_eq_append_getElem h,List.map_append];rfl
theorem Wz(w:AI)(s:ByteArray):Sl (w.alloc (.cells #[.string s] 9)) (some ⟨w.heap.size,0,none⟩) [.string s]:=fun j u hu=>by
 have hj:j=0:=by have:=(List.getElem?_eq_some_iff.1 hu).1;simp at this;omega
 subst hj;refine⟨w.heap.size,0,rfl,by simp,?_⟩;have:=(Bk.new w 9 #[.string s]).cell 0;simp at hu;rw[<-hu];exact this
def we (L:List En) (j:Nat):Option Nat:=if j<L.length then some j else none
theorem zE(L:List En)(j:Nat)(h:j<L.length):nextO L (we L j)=we L (j+1)/\(nextO L (we L j)).isSome=decide (j+1<L.length):=by
 unfold we;rw[if_pos h];unfold nextO;by_cases h2:j+1<L.length
 ·simp[h2]
 ·simp[h2]
structure iU (p:aA) (S:List Nat) (σ :ag) (c root:Nat) (L:List En) (w:AI) (j:Nat) (v:IS) (wr:AI) (R U:List Nat):Prop where
 cur:fQ p S σ c root R L wr U (we L j)
 own:wr.ownsRow w.heap.size 9 1 v j (ek (L.take j))
 mem:∀g,v.ownBlock=some g->g∈R
 Wt:∀b∈R,w.heap.size<=b
 uB:∀b∈U,w.heap.size<=b
 size:w.heap.size<=wr.heap.size
 below:No w.heap.size w wr
theorem iU.grow{p:aA}(hp:Reads p){S:List Nat}{σ :ag}{c root:Nat}{L:List En}{w wr w4 w5:AI}{j:Nat}{v v':IS}{R U:List Nat}(h:iU p S σ c root L w j v wr R U)(hj:j<L.length)(hb:No wr.heap.size wr w4)(hg:w4.grownBy w5 v.ownBlock)(ho:w5.ownsRow w.heap.size 9 1 v' (j+1) (ek (L.take (j+1))))(hn:∀g,v'.ownBlock=some g->v.ownBlock=some g\/w4.heap.size<=g):
  ∃R',fQ p S σ c root R' L w5 U (we L j)/\(∀g,v'.ownBlock=some g->g∈R')/\(∀b∈R',w.heap.size<=b)/\No w.heap.size w w5:=by
 have bS:ah v.ownBlock.toList wr w5:=(ah.ae hb _).grown hg (fun g hg=> .inl (by simp[hg]));refine⟨R++v'.ownBlock.toList,h.cur.more hp bS (fun b hb=>h.mem b (by simpa using hb)) (fun b hb=> ?_),fun g hg=>by simp[hg],fun b hb=> ?_,h.below.trans (bS.below h.size (fun g hg=>h.Wt g (h.mem g (by simpa using hg))))⟩
 ·rcases AT.1 hb with hb|hb
  ·obtain⟨v0,ls,hc,-⟩:=h.cur
   exact⟨aaf (hc.TD b hb) bS.size,.inl hb⟩
  ·have F2:v'.ownBlock=some b:=by simpa using hb
   refine⟨(abr ho b F2).2,?_⟩;rcases hn b F2 with h9|h9
   ·exact .inl (h.mem b h9)
   ·rename_i gH
    exact .inr (abE (ah.ae ‹No wr.heap.size wr w4› []).size h9)
 ·rcases AT.1 hb with hb|hb
  ·exact h.Wt b hb
  ·exact(abr ho b (by simpa using hb)).1
theorem iU.next{p:aA}(hp:Reads p){S:List Nat}{σ :ag}{c root:Nat}{L:List En}{w w5 w6:AI}{j:Nat}{v':IS}{R' U:List Nat}(hj:j<L.length)(h1:fQ p S σ c root R' L w5 U (we L j))(h2:∀g,v'.ownBlock=some g->g∈R')(h3:∀b∈R',w.heap.size<=b)(h4:No w.heap.size w w5)(hu:∀b∈U,w.heap.size<=b)
  (ho:w5.ownsRow w.heap.size 9 1 v' (j+1) (ek (L.take (j+1)))) (h:gk p S σ c root R' L w5 U (we L (j+1)) w6):∃U',iU p S σ c root L w (j+1) v' w6 R' U':=by
 obtain⟨U',g1,g2,g3,g4⟩:=h;obtain⟨v0,ls,hc,-⟩:=h1;have hs:=h4.size;exact⟨U',g1,g2.own ho (fun g hg hm=>hc.Ks g hm (h2 g hg)),h2,h3,fun b hb=>(g3 b hb).elim (hu b) (fun h=>abE hs h),abE hs g2.size,h4.trans (g2.below hs hu)⟩
theorem snames_any{w:AI}{sp b:Nat}{K:Kr}{i:Int}{m:aL}{pv:IS}{Fo:Forest}(h:SnapOn w sp b K i m pv Fo)(hlen:Fo.main.L.length<=10000):
  aag prog 90 #[.pointer (some ⟨sp,0,none⟩)] w (fun e w'=>No w.heap.size w w'/\∃v,e= .returned (.tuple #[v,.int .i64 0])/\w'.ownsRow w.heap.size 9 1 v Fo.main.L.length (ek Fo.main.L)):=by
 obtain⟨i0,hi,ef,dK,dY⟩:=info_parts tN;have HM:=sh (yl h.snap);obtain⟨cs,gI,Av⟩:=h.db;have c0:w.cell? ⟨sp,0,none⟩=some (.pointer (some ⟨b,0,none⟩)):=Bk.cell h.snap 0;have c3:w.cell? ⟨sp,3,none⟩=some (.int .i64 (Fo.main.root:Nat)):=by rw[<-h.root];exact Bk.cell h.snap 3
 have d0:w.cell? ⟨b,0,none⟩=some (.pointer (some ⟨K.q,0,none⟩)):=(gI.cell 0).trans Av;have ls:=Bk.lt h.snap;have lb:=gI.lt;have hp:=bT h.ok;have HN:=sh fun(W:AI) (hb:No w.heap.size w W)=>(show aag prog 75 #[.iface 117 (.agg #[.pointer (some ⟨K.q,0,none⟩)]),.int .i64 (Fo.main.root:Nat)] W _ from zL hp Fo.main.root (hp.below h.at_ hb));obtain⟨L,hL⟩:∃L,L=Fo.main.L:=⟨_,rfl⟩;have HWH:=sh (show Whole K.cF Fo.main.root L from by rw[hL];exact h.fo.main.whole (List.nodup_append.1 h.fo.nodup).1);rw[<-hL]at hlen |-;clear h gI Av hL;go_enter func90,ntmps90
 go_wp2_with fail
 refine HM.out.mono ?_;rintro e w1 ⟨rfl,rfl⟩;have sK:=sh (show ∀W,No w.heap.size w W->W.cell? ⟨sp,0,none⟩=some (.pointer (some ⟨b,0,none⟩))/\W.cell? ⟨b,0,none⟩=some (.pointer (some ⟨K.q,0,none⟩))/\W.cell? ⟨sp,3,none⟩=some (.int .i64 (Fo.main.root:Nat)) from fun W hW=>⟨(hW.cell (p:=⟨sp,0,none⟩) ls).trans c0,(hW.cell (p:=⟨b,0,none⟩) lb).trans d0,(hW.cell (p:=⟨sp,3,none⟩) ls).trans c3⟩);go_wp2_with fail
 go_region_held3 (fun W=>W.cell? ⟨sp,0,none⟩=some (.pointer (some ⟨b,0,none⟩))/\W.cell? ⟨b,0,none⟩=some (.pointer (some ⟨K.q,0,none⟩))/\W.cell? ⟨sp,3,none⟩=some (.int .i64 (Fo.main.root:Nat))) (first|exact sK.out _ (IN _ _).drew|exact sK.out _ bO.out) (first
  | (go_at_call 75;refine(HN.out _ (IN _ _).drew).mono ?_;rintro e w2 ⟨c,rfl,az,Vh,SD⟩;have bO:=sh ((IN w.heap.size w).drew.trans az);have J4:=sh SD;clear az SD)
  | fail)
 all_goals
  have HF:=sh (Ah hp (o:=none) (L:=L) ⟨_,[],J4.out,rfl⟩ HWH.out);go_wp2_with fail
  refine HF.out.mono ?_;rintro e w3 ⟨rfl,U3,SE,eA,gQ,abf⟩;have h0:∃R U,Hid (iU (dj K) K.blocks K.cF c Fo.main.root L w 0 (.slice none 0 0) w3 R U):=⟨[],U3,sh ⟨by
   unfold we;have e9:(if L=[]then none else some 0)=(if 0<L.length then some 0 else none):=by cases L<;>simp
   rw[<-e9];exact SE,World.ownsRow_nil _ _ _ _,fun g hg=>by simp[Value.ownBlock]at hg,by simp,fun b hb=>(gQ b hb).elim (fun h9=>by rw[By]at h9;rw[h9];exact Vh) (fun h9=>abE bO.out.size h9),abE bO.out.size eA.size,bO.out.trans (eA.below bO.out.size (fun g hg=>by rw[By]at hg;rw[hg];exact Vh))⟩⟩
  have e0:decide (L≠[])=decide (0<L.length):=by cases L<;>simp
  rw[e0];clear SE eA gQ abf HF e0;go_wp2_with fail
  go_loopw [6,7,8] (fun lv ok er wr=>∃(j:Nat) (A:Option Addr) (cc:Nat),lv= .slice A j cc/\ok= .bool (decide (j<L.length))/\er= .int .i64 0/\j<=L.length/\∃R U,Hid (iU (dj K) K.blocks K.cF c Fo.main.root L w j (.slice A j cc) wr R U)) (fun lv _ _ _=>L.length-(match lv with| .slice _ n _=>n|_=>0))
  case atStart=>exact⟨0,none,0,rfl,rfl,rfl,Nat.zero_le _,h0⟩
  case round=>
   obtain⟨j,A,cc,rfl,rfl,rfl,hj,R,U,R9⟩:=hrel;by_cases aI:j<L.length
   ·have z2:decide (j<L.length)=true:=decide_eq_true aI
    rw[z2];obtain⟨x,hx⟩:∃x,x=L[j].cell.key:=⟨_,rfl⟩;have uS:(cellAt L (we L j)).key=x:=by rw[hx];unfold we;rw[if_pos aI];simp[cellAt,aI]
    have HK:=sh (MU R9.out.cur);rw[uS]at HK;have Yb:=sh (zX aI);rw[<-hx]at Yb;have HWS:=R9.out.size;clear hx uS z2 h0;go_wp2_with fail
    refine HK.out.mono ?_;rintro e w4 ⟨rfl,b7⟩;have fx:=sh b7;have xO:=sh ((ah.ae b7 []).own R9.out.own (by simp));have h4s:=b7.size;clear b7;go_wp2_with (at_builtin;refine cJ _ rfl (.tmp 40) (.tmp 43) 72 rfl w.heap.size 9 i0 _ 16 underlying72 hi ef dK dY rfl (.slice A j cc) j (ek (L.take j)) rfl (xO.out.alloc _) (some ⟨w4.heap.size,0,none⟩) 1 1 [.string x] rfl rfl (Wz w4 x) (by simp[Value.oneCell']) (by unfold maxLen;omega) (by omega) (by simp;omega) ?_;intro v5 w5 lQ lM aaM)
    obtain⟨A5,c5,rfl,-,-,-,-,-⟩:=cT lQ;have Ed:w5.ownsRow w.heap.size 9 1 (.slice A5 (j+1) c5) (j+1) (ek (L.take (j+1))):=by rw[Yb.out];exact lQ
    obtain⟨R',g1,g2,g3,g4⟩:=R9.out.grow hp aI (fx.out.alloc fx.out.size (.cells #[.string x] 9)) lM Ed (fun g hg=>aaM.elim (fun e=> .inl (by rw[<-e];exact hg)) (fun e=> .inr (by rw[e]at hg;cases hg;exact AS _)));obtain⟨n1,n2⟩:=zE L j aI;have oc:=sh (Gv hp g1);rw[n1]at oc;rw[<-n1,n2]at oc;have HG:=sh (show _/\_/\_/\_/\_ from ⟨g1,g2,g3,g4,Ed⟩);clear lQ Ed lM aaM g1 g2 g3 g4 n2;go_wp2_with fail
    refine oc.out.mono ?_;rintro e w6 ⟨rfl,CT⟩;have HN6:∃R U,Hid (iU (dj K) K.blocks K.cF c Fo.main.root L w (j+1) (.slice A5 (j+1) c5) w6 R U):=by
     obtain⟨g1,g2,g3,g4,g5⟩:=HG.out;rw[n1]at CT;obtain⟨U',h9⟩:=iU.next hp aI g1 g2 g3 g4 R9.out.uB g5 CT;exact⟨R',U',sh h9⟩
    clear CT oc;go_wp2_with fail
    go_roundw
    case rel=>exact⟨j+1,A5,c5,rfl,rfl,rfl,by omega,HN6⟩
    case measure=>show L.length-(j+1)<L.length-j;omega
   ·have z2:decide (j<L.length)=false:=decide_eq_false aI
    rw[z2];have vo:j=L.length:=by omega
    subst vo;have HE:=sh (show No w.heap.size w wr/\∃v,(Ending.returned (.tuple #[.slice A L.length cc,.int .i64 0]))= .returned (.tuple #[v,.int .i64 0])/\wr.ownsRow w.heap.size 9 1 v L.length (ek L) from by
     have h9:=R9.out.own;rw[List.take_length]at h9;exact⟨R9.out.below,_,rfl,h9⟩)
    clear R9 z2;go_wp2_with fail
    go_ret2
    exact HE.out
theorem Ch{w:AI}{d:Di}{sp:Nat}{i:Int}{m:aL}{pv:IS}(h:gK w d)(hs:iV w sp d.b i m pv false)(qo:sp∉d.blocks):aag prog 18 #[.pointer (some ⟨sp,0,none⟩)] w (fun e w'=>e= .returned (.int .i64 (d.s.leave i).2)/\ah [sp,d.r] w w'/\gK w' { d with s:=(d.s.leave i).1 }/\iV w' sp d.b i m pv true):=by
 have HM:=sh (yl hs);have ls:=Bk.lt hs;have lb:=h.top.lt;have s8:=Bk.cell hs 8;have f8:=Bk.frozen hs 8;have nsb:sp≠d.b:=fun e=>qo (by rw[e];simp[Di.blocks]);have Wn:sp≠d.r:=fun e=>qo (by rw[e];simp[Di.blocks]);have nbr:d.b≠d.r:=Bk.ne h.top h.rd (by decide);have bS:ah [sp,d.r] w (w.setCell ⟨sp,8,none⟩ (.bool true)):=(ah.refl _ w).setCell (p:=⟨sp,8,none⟩) (.inl (by simp)) _;have jb:∀W,ah [d.r] (w.setCell ⟨sp,8,none⟩ (.bool true)) W->W.cell? ⟨sp,0,none⟩=some (.pointer (some ⟨d.b,0,none⟩))/\W.cell? ⟨d.b,1,none⟩=some (.pointer (some ⟨d.r,0,none⟩))/\W.cell? ⟨sp,1,none⟩=some (.int .i64 i):=fun W hW=>by
  have k1:=hW.bk (Bk.put hs 8 (.bool true)) (by simpa using Wn);have k2:=hW.bk (h.top.zf (p:=⟨sp,8,none⟩) (Ne.symm nsb) (.bool true)) (by simpa using nbr);exact⟨k1.cell 0,k2.cell 1,k1.cell 1⟩
 have bH:=sh jb;have hrd:Bk (w.setCell ⟨sp,8,none⟩ (.bool true)) d.r 195 d.s.cells:=h.rd.zf (p:=⟨sp,8,none⟩) (Ne.symm Wn) _;have HL:=sh (wX d.r i d.s (w.setCell ⟨sp,8,none⟩ (.bool true)).drew hrd.drew);obtain⟨s2,n2,wR⟩:∃s2 n2,d.s.leave i=(s2,n2):=⟨_,_,rfl⟩;rw[wR]at HL;have HDD:=sh (show ∀W,ah [d.r] (w.setCell ⟨sp,8,none⟩ (.bool true)) W->Bk W d.r 195 s2.cells->gK W { d with s:=s2 }/\iV W sp d.b i m pv true from fun W hW om=>
  ⟨(h.off (U:=[sp]) ((ah.refl _ w).setCell (p:=⟨sp,8,none⟩) (.inl (by simp)) (.bool true)) (fun x hx hm=>by rw[By]at hm;subst hm;exact qo hx)).pk hW om,hW.bk (Bk.put hs 8 (.bool true)) (by simpa using Wn)⟩)
 have nk:=sh bS;have xR:=sh wR;clear h hs jb hrd bS wR;obtain⟨b,q,r,f,g,T,Sf,P,s,fr,pv',m7,wv⟩:=d;simp only at *;go_enter func18,ntmps18
 go_wp2_with fail
 refine HM.out.mono ?_;rintro e w1 ⟨rfl,rfl⟩;go_wp2_with fail
 go_region_held3 (fun W=>W.cell? ⟨sp,0,none⟩=some (.pointer (some ⟨b,0,none⟩))/\W.cell? ⟨b,1,none⟩=some (.pointer (some ⟨r,0,none⟩))/\W.cell? ⟨sp,1,none⟩=some (.int .i64 i)) (first|exact bH.out _ (ah.refl _ _).drew|exact bH.out _ kU.out) (first
  | (go_at_call 60;refine HL.out.mono ?_;rintro e w2 ⟨rfl,om,dg⟩;have gM:=sh om;have kU:=sh ((ah.refl [r] _).drew.trans dg);clear om dg))
 all_goals
  go_wp2_with fail
  go_ret
  exact⟨by have h9:=xR.out;simp[h9],nk.out.trans (kU.out.mono (fun x hx=> .inl (by simp at hx;simp[hx]))),by rw[xR.out];exact HDD.out _ kU.out gM.out⟩
theorem JC{w:AI}{sp b:Nat}{i:Int}{m:aL}{pv:IS}(h:iV w sp b i m pv true):aag prog 57 #[.pointer (some ⟨sp,0,none⟩)] w (fun e w'=>e= .returned (.int .i64 12)/\w=w'):=by
 have c8:=Bk.cell h 8;have ls:=Bk.lt h;clear h;go_enter func57,ntmps57
 go_wp2_with fail
 go_ret
 exact⟨rfl,rfl⟩
theorem Cm{w:AI}{sp b:Nat}{i:Int}{m:aL}{pv:IS}(h:iV w sp b i m pv true):aag prog 90 #[.pointer (some ⟨sp,0,none⟩)] w (fun e w'=>e= .returned (.tuple #[.slice none 0 0,.int .i64 12])/\w=w'):=by
 have HM:=sh (JC h);clear h;go_enter func90,ntmps90
 go_wp2_with fail
 refine HM.out.mono ?_;rintro e w1 ⟨rfl,rfl⟩;go_wp2_with fail
 go_ret2
 exact⟨rfl,rfl⟩
theorem qM{w:AI}{sp b:Nat}{i:Int}{m:aL}{pv:IS}(h:iV w sp b i m pv true):aag prog 35 #[.pointer (some ⟨sp,0,none⟩)] w (fun e w'=>e= .returned (.tuple #[.slice none 0 0,.int .i64 12])/\w=w'):=by
 have HM:=sh (Cm h);clear h;go_enter func35,ntmps35
 go_wp2_with fail
 refine HM.out.mono ?_;rintro e w1 ⟨rfl,rfl⟩;go_wp2_with fail
 go_ret2
 exact⟨rfl,rfl⟩
theorem wz(v:IS){w:AI}{sp b:Nat}{i:Int}{m:aL}{pv:IS}(h:iV w sp b i m pv true):aag prog 87 #[.pointer (some ⟨sp,0,none⟩),v] w (fun e w'=>e= .returned (.int .i64 12)/\w=w'):=by
 have HM:=sh (qM h);clear h;go_enter func87,ntmps87
 go_wp2_with fail
 refine HM.out.mono ?_;rintro e w1 ⟨rfl,rfl⟩;go_wp2_with fail
 go_ret
 exact⟨rfl,rfl⟩
theorem I6(n:Int){w:AI}{sp b:Nat}{i:Int}{m:aL}{pv:IS}(h:iV w sp b i m pv true):aag prog 36 #[.pointer (some ⟨sp,0,none⟩),.int .i64 n] w (fun e w'=>e= .returned (.tuple #[.slice none 0 0,.int .i64 12])/\No w.heap.size w w'):=by
 have HM:=sh fun(v:IS) (W:AI) (hb:No w.heap.size w W)=>wz v (af h hb);have HB:=sh (fun(o1 o2:Obj)=>((IN _ w).alloc (AS _) o1).alloc (by simp) o2);have hmf:∀(fn:Fn) (first cap:Array IS) (w:AI),(Instr.makeFunc fn first cap).run prog w= .ok (.func fn first cap) w:=fun _ _ _ _=>rfl;clear h;go_enter func36,ntmps36
 go_wp2_with fail
 refine(HM.out _ _ (HB.out _ _)).mono ?_;rintro e w1 ⟨rfl,rfl⟩;go_wp2_with fail
 go_ret2
 exact⟨rfl,HB.out _ _⟩
theorem Oh{w:AI}{sp b:Nat}{i:Int}{m:aL}{pv:IS}(h:iV w sp b i m pv true):aag prog 37 #[.pointer (some ⟨sp,0,none⟩)] w (fun e w'=>e= .returned (.tuple #[.int .u32 0,.int .i64 12])/\No w.heap.size w w'):=by
 have HM:=sh fun(v:IS) (W:AI) (hb:No w.heap.size w W)=>wz v (af h hb);have HB:=sh (fun(o1:Obj)=>(IN _ w).alloc (AS _) o1);have hmf:∀(fn:Fn) (first cap:Array IS) (w:AI),(Instr.makeFunc fn first cap).run prog w= .ok (.func fn first cap) w:=fun _ _ _ _=>rfl;clear h;go_enter func37,ntmps37
 go_wp2_with fail
 refine(HM.out _ _ (HB.out _)).mono ?_;rintro e w1 ⟨rfl,rfl⟩;go_wp2_with fail
 go_ret2
 exact⟨rfl,HB.out _⟩
end Go.Proofs.YtjbcbnemdhbhbaaGreatDoor
