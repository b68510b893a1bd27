import Derived.Test.YtjbcbnemdhbhbaaGreatDoorB40
import Derived.Test.YtjbcbnemdhbhbaaGreatDoorB34
import Derived.Test.YtjbcbnemdhbhbaaGreatDoorB1
import Derived.Deep.LoopGhost
import Derived.Test.YtjbcbnemdhbhbaaGreatDoorB15
import Derived.Lib.Replace
import Derived.Test.YtjbcbnemdhbhbaaGreatDoorB5
set_option maxRecDepth 100000
set_option linter.unusedVariables false
set_option linter.unusedSimpArgs false
set_option maxHeartbeats 40000000
open Array renaming length_toList→ack
open ByteArray renaming empty→aca
open Go renaming Addr→acn,Calls→aag,Value→IS,World→AI,heap_alloc_new→acb,maxLen→abi
open Go.Ending renaming returned→adA
open Go.Lib renaming hid→sh
open Go.RowKit renaming Below→No
open Go.RowKit.Below renaming refl→IN
open Go.Value renaming int→acK,oneCell'→acA,slice→acf
open Go.World renaming news_of_block→abV,ownsRow_lit→adD
open Go.World.ownsRow renaming cells→afw,lt→abr
open List renaming append_assoc→OF,drop_of_length_le→acF,getElem?_append_right→abX,getElem_mem→abw,length_append→BY,length_cons→abB,length_drop→abS,length_map→aae,length_take→abv,map_append→abH,mem_cons→IT,mem_singleton→By,nodup_append→aai,takeWhile_cons→aeC,take_append_drop→abm,take_length→acB,take_succ_eq_append_getElem→aaT
open Nat renaming le_refl→AS,le_trans→abE,zero_add→abU,zero_le→abc
namespace Go.Proofs.YtjbcbnemdhbhbaaGreatDoor
open Go.Proofs.Tryz
open Go.RowKit
theorem Forest.Ok.Ri{Fo:Forest}{σ :ag}(h:Fo.Ok σ)(name:ByteArray):(Fo.tr name).P.Nodup:=by
 by_cases hc:name∈Fo.NS
 ·obtain⟨a,b,-,-,-,hp⟩:=h.split hc
  exact(aai.1 (hp.nodup_iff.1 h.nodup)).1
 ·rw[h.out name hc];exact List.nodup_nil
theorem JE{w:AI}{sp b:Nat}{K:Kr}{i:Int}{m:aL}{pv:IS}{Fo:Forest}(h:SnapOn w sp b K i m pv Fo)(name:ByteArray)(hn:eg name)(W:AI)(hb:No w.heap.size w W):
  aag prog 58 #[.iface 117 (.agg #[.pointer (some ⟨K.q,0,none⟩)]),.int .i64 (Fo.main.root:Nat),.string name] W (fun e w'=>No W.heap.size W w'/\e= .returned (.tuple #[.int .i64 (Fo.tr name).root,.int .i64 0])):=by
 refine(uj (bT h.ok) ((bT h.ok).below h.at_ hb) Fo.main.root (h.fo.main.deep (aai.1 h.fo.nodup).1) h.fo.main.nE h.fo.names name hn.1 hn.2).mono ?_;rintro e w' ⟨F2,r,rfl,hr⟩;rw[bF.LQ h.fo.main.rising hr (h.fo.yD name (h.told name))];exact⟨F2,rfl⟩
theorem Ci{w:AI}{sp b:Nat}{K:Kr}{i:Int}{m:aL}{pv:IS}{Fo:Forest}(h:SnapOn w sp b K i m pv Fo)(name:ByteArray)(hn:eg name):
  aag prog 146 #[.pointer (some ⟨sp,0,none⟩),.string name] w (fun e w'=>∃c,e= .returned (.tuple #[.pointer (some ⟨c,0,none⟩),.int .i64 0])/\No w.heap.size w w'/\w.heap.size<=c/\lh (dj K) K.blocks K.cF c (Fo.tr name).root [] w' [c] (.slice none 0 0) []):=by
 have HM:=sh (yl h.snap);obtain⟨cs,gI,Av⟩:=h.db;have xR:=sh (show Bk w sp 115 #[.pointer (some ⟨b,0,none⟩),.int .i64 i,.int .i64 m.t,.int .i64 m.r,.int .i64 m.f,.int .i64 m.p,.int .i64 m.l,pv,.bool false] from h.snap);have c0:w.cell? ⟨sp,0,none⟩=some (.pointer (some ⟨b,0,none⟩)):=Bk.cell h.snap 0;have ls:=Bk.lt h.snap;have lb:=gI.lt;have d0:w.cell? ⟨b,0,none⟩=some (.pointer (some ⟨K.q,0,none⟩)):=(gI.cell 0).trans Av;have HR:=sh fun(W:AI) (hb:No w.heap.size w W)=>JE h name hn W hb;rw[<-h.root]at HR;have c3:w.cell? ⟨sp,3,none⟩=some (.int .i64 m.r):=Bk.cell h.snap 3;have hp:=bT h.ok;have HN:=sh fun(W:AI) (hb:No w.heap.size w W)=>(show aag prog 75 #[.iface 117 (.agg #[.pointer (some ⟨K.q,0,none⟩)]),.int .i64 ((Fo.tr name).root:Nat)] W _ from zL hp (Fo.tr name).root (hp.below h.at_ hb));clear h gI Av hn;go_enter func146,ntmps146
 go_wp2_with fail
 refine HM.out.mono ?_;rintro e w1 ⟨rfl,rfl⟩;go_wp2_with fail
 have sK:=sh (show ∀W,No (w.alloc (.cells #[.pointer (some ⟨K.q,0,none⟩)] 117)).heap.size (w.alloc (.cells #[.pointer (some ⟨K.q,0,none⟩)] 117)) W->W.cell? ⟨w.heap.size,0,none⟩=some (.pointer (some ⟨K.q,0,none⟩))/\W.cell? ⟨sp,3,none⟩=some (.int .i64 m.r) from fun W hW=>⟨(af (Bk.new w _ _) hW).cell 0,(af (Bk.alloc xR.out _) hW).cell 3⟩);go_region_held3 (fun W=>W.cell? ⟨w.heap.size,0,none⟩=some (.pointer (some ⟨K.q,0,none⟩))/\W.cell? ⟨sp,3,none⟩=some (.int .i64 m.r)) (first|exact sK.out _ (IN _ _).drew|exact sK.out _ bO.out) (first
  | (go_at_call 58;refine(HR.out _ ((IN _ w).alloc (AS _) _).drew).mono ?_;rintro e w2 ⟨az,rfl⟩;have bO:=sh ((IN (w.alloc (.cells #[.pointer (some ⟨K.q,0,none⟩)] 117)).heap.size (w.alloc (.cells #[.pointer (some ⟨K.q,0,none⟩)] 117))).drew.trans (az.mono (by simp))))
  | fail)
 all_goals
  have hz:=af (Bk.new w 117 #[.pointer (some ⟨K.q,0,none⟩)]).drew az;have z0:=hz.cell 0;have lz:=hz.lt;have bz:=sh (((IN _ w).alloc (AS _) (.cells #[.pointer (some ⟨K.q,0,none⟩)] 117)).drew.trans (az.mono (by simp)));clear az hz;go_wp2_with fail
  refine(HN.out _ bz.out).mono ?_;rintro e w3 ⟨c,rfl,aQ,Vh,L5⟩;have HE:=sh (show ∃c',(adA (.tuple #[.pointer (some ⟨c,0,none⟩),.int .i64 0]))= .returned (.tuple #[.pointer (some ⟨c',0,none⟩),.int .i64 0])/\No w.heap.size w w3/\w.heap.size<=c'/\lh (dj K) K.blocks K.cF c' (Fo.tr name).root [] w3 [c'] (.slice none 0 0) [] from ⟨c,rfl,bz.out.trans (aQ.mono bz.out.size),abE bz.out.size Vh,L5⟩);clear aQ Vh L5;go_wp2_with fail
  go_ret2
  exact HE.out
theorem Forest.Ok.key{Fo:Forest}{σ :ag}(h:Fo.Ok σ)(ht:∀n,Fo.R n=none){e:En}(he:e∈Fo.main.L):e.cell.key∈Fo.NS/\eg e.cell.key/\(Fo.tr e.cell.key).root=ai ⟨e.val.toArray⟩ 0 4:=by
 have h1:=h.yD e.cell.key (ht _);have h2:bF Fo.main.L e.cell.key (ai ⟨e.val.toArray⟩ 0 4):= .inl ⟨e,he,rfl,rfl⟩;have h3:=bF.LQ h.main.rising h1 h2;have h4:=(h.names e he).2.1;have h5:e.cell.key∈Fo.NS:=by
  by_cases hc:e.cell.key∈Fo.NS
  ·exact hc
  ·rw[h.out _ hc]at h3
   have:(Tn.zero).root=0:=rfl;omega
 exact⟨h5,h.valid _ h5,h3⟩
theorem l9{L:List En}(h:Tr.bB L):(L.map fun e=>e.cell.key).Nodup:=by
 rw[List.Nodup,List.pairwise_map];exact List.Pairwise.imp (fun {a b} oL e=>by rw[e,Nd.lt_irrefl]at oL;cases oL) h
structure acR (p:aA) (S:List Nat) (σ :ag) (c root:Nat) (L:List En) (w:AI) (j:Nat) (ty:TypeId) (n:Nat) (X:List IS) (v:IS) (wr:AI) (R U:List Nat):Prop where
 cur:fQ p S σ c root R L wr U (we L j)
 own:wr.ownsRow w.heap.size ty 1 v n X
 mem:∀g,v.ownBlock=some g->g∈R
 Wt:∀b∈R,w.heap.size<=b
 uB:∀b∈U,w.heap.size<=b
 size:w.heap.size<=wr.heap.size
 below:No w.heap.size w wr
theorem fQ.below{p:aA}(hp:Reads p){S:List Nat}{σ :ag}{c root:Nat}{R:List Nat}{L:List En}{w w':AI}{U:List Nat}{o:Option Nat}(h:fQ p S σ c root R L w U o)(hb:No w.heap.size w w'):fQ p S σ c root R L w' U o:=by
 obtain⟨v,ls,h1,h2⟩:=h;exact⟨v,ls,h1.below hp hb,h2⟩
theorem sS{w:AI}{sp b:Nat}{K:Kr}{i:Int}{m:aL}{pv:IS}{Fo:Forest}(h:SnapOn w sp b K i m pv Fo)(hlen:Fo.main.L.length<=10000):
  aag prog 35 #[.pointer (some ⟨sp,0,none⟩)] w (fun e w'=>No w.heap.size w w'/\∃v,e= .returned (.tuple #[v,.int .i64 0])/\w'.ownsRow w.heap.size 9 1 v Fo.main.L.length (ek Fo.main.L)):=by
 have HS:=sh (snames_any h hlen);clear h;go_enter func35,ntmps35
 go_wp2_with fail
 refine HS.out.mono ?_;rintro e w1 ⟨hb,v,rfl,au⟩;have HE:=sh (show No w.heap.size w w1/\∃v',(adA (.tuple #[v,.int .i64 0]))= .returned (.tuple #[v',.int .i64 0])/\w1.ownsRow w.heap.size 9 1 v' Fo.main.L.length (ek Fo.main.L) from ⟨hb,v,rfl,au⟩);clear hb au;go_wp2_with fail
 go_ret2
 exact HE.out
structure Tl3 where
 name:ByteArray
 key:ByteArray
 val:ByteArray
namespace Tl3
def less (a b:Tl3):Bool:=Nd.lt a.name b.name||(decide (a.name=b.name)&&Nd.lt a.key b.key)
def at_ (name key:ByteArray) (r:Tl3):Bool:=decide (r.name=name)&&decide (r.key=key)
def del (name key:ByteArray) (l:List Tl3):List Tl3:=l.filter fun r=> !at_ name key r
def put (x:Tl3) (l:List Tl3):List Tl3:=(del x.name x.key l).takeWhile (fun r=>less r x)++(x::(del x.name x.key l).dropWhile (fun r=>less r x))
theorem PX(name key:ByteArray)(l:List Tl3):(del name key l).length<=l.length:=List.length_filter_le _ _
theorem uv{p:Tl3->Bool}:∀(a b:List Tl3),(∀x∈a,p x=true)->(∀y t,b=y::t->p y=false)->(a++b).takeWhile p=a/\(a++b).dropWhile p=b
 | [],b,_,h=>by
  cases b with
  | nil=>exact⟨rfl,rfl⟩
  | cons y t=>
   have:=h y t rfl;simp[aeC,List.dropWhile_cons,this]
 | x::a,b,h1,h=>by
  have h2:=h1 x (by simp);obtain⟨h3,h4⟩:=uv a b (fun y hy=>h1 y (by simp[hy])) h;rw[List.cons_append,aeC,List.dropWhile_cons,if_pos h2,if_pos h2,h3,h4];exact⟨rfl,rfl⟩
end Tl3
def Forest.cB (Fo:Forest) (L:List En):List Tl3:=L.flatMap fun e=>(Fo.tr e.cell.key).L.map fun x=>⟨e.cell.key,x.cell.key,⟨x.val.toArray⟩⟩
structure XJ (fc:Nat) (cR:Array IS) (X:List Nat) (I:List Tl3->AI->Prop):Prop where
 enter:∀args W,Sem.run prog (callFunc fc args) W= .ok (.enter fc args) W
 keep:∀(l:List Tl3) (w w':AI) (U:List Nat),I l w->ah U w w'->(∀x∈X,x∉U)->I l w'
 old:∀(l:List Tl3) (w:AI),I l w->∀x∈X,x<w.heap.size
 yf:∀(l:List Tl3) (w:AI) (t:Tl3),I l w->l.length<100000->aag prog fc (#[.string t.name,.string t.key,.string t.val]++cR) w (fun e w'=>e= .returned (.bool true)/\ah X w w'/\I (l++[t]) w')
theorem SnapOn.off{w w':AI}{sp b:Nat}{K:Kr}{i:Int}{m:aL}{pv:IS}{Fo:Forest}{U:List Nat}(h:SnapOn w sp b K i m pv Fo)(ho:ah U w w')(h1:sp∉U)(h2:b∉U)(h3:∀x∈K.blocks,x∉U):SnapOn w' sp b K i m pv Fo:=by
 obtain⟨cs,g1,g2⟩:=h.db;obtain⟨p1,p2,p3,-⟩:=(bT h.ok).off h.at_ ho h3;exact⟨ho.bk h.snap h1,⟨cs,ho.bk g1 h2,g2⟩,h.ok,p1,p2,p3,h.fo,h.told,h.root⟩
theorem Fk{Fo:Forest}{L:List En}{j:Nat}(h:j<L.length):Fo.cB (L.take (j+1))=Fo.cB (L.take j)++(Fo.tr L[j].cell.key).L.map fun x=>⟨L[j].cell.key,x.cell.key,⟨x.val.toArray⟩⟩:=by
 unfold Forest.cB;rw[aaT h,Tr.aC];simp
structure TE (X:List Nat) (I:List Tl3->AI->Prop) (w:AI) (sp b:Nat) (K:Kr) (i:Int) (m:aL) (pv:IS) (Fo:Forest) (ns:IS) (l:List Tl3) (wr:AI):Prop where
 snap:SnapOn wr sp b K i m pv Fo
 names:wr.ownsRow w.heap.size 9 1 ns Fo.main.L.length (ek Fo.main.L)
 inv:I l wr
 off:ah X w wr
structure Ux (X:List Nat) (I:List Tl3->AI->Prop) (w:AI) (sp b:Nat) (K:Kr) (i:Int) (m:aL) (pv:IS) (Fo:Forest) (ns:IS) (cu:Nat) (x:ByteArray) (l:List Tl3) (k:Nat) (wi:AI) (U:List Nat):Prop where
 at_:TE X I w sp b K i m pv Fo ns l wi
 cur:fQ (dj K) K.blocks K.cF cu (Fo.tr x).root X (Fo.tr x).L wi U (we (Fo.tr x).L k)
 uB:∀u∈U,w.heap.size<=u/\(∀g,ns.ownBlock=some g->u≠g)
theorem Ux.did{X:List Nat}{I:List Tl3->AI->Prop}{w wi w':AI}{sp b:Nat}{K:Kr}{i:Int}{m:aL}{pv:IS}{Fo:Forest}{ns:IS}{cu:Nat}{x:ByteArray}{l l':List Tl3}{k:Nat}{U:List Nat}(h:Ux X I w sp b K i m pv Fo ns cu x l k wi U)(ho:ah X wi w')(hi:I l' w')(hX:∀x∈X,x≠sp/\x≠b/\x∉K.blocks)(hold:∀x∈X,x<w.heap.size):Ux X I w sp b K i m pv Fo ns cu x l' k w' U:=by
 have hp:=bT h.at_.snap.ok;refine⟨⟨h.at_.snap.off ho (fun hm=>(hX _ hm).1 rfl) (fun hm=>(hX _ hm).2.1 rfl) (fun y hy hm=>(hX _ hm).2.2 hy),ho.own h.at_.names (fun g hg hm=> ?_),hi,h.at_.off.trans ho⟩,h.cur.more hp ho (fun b hb=>hb) (fun b hb=>⟨?_,.inl hb⟩),h.uB⟩
 ·have h1:=(abr h.at_.names g hg).1
  have h2:=hold g hm;omega
 ·have h1:=hold b hb
  have h2:=h.at_.off.size;have h3:=ho.size;omega
def aer (N:Nat) (l:List Nat):List Nat:=(List.range N).map fun k=>l.count k
structure agv (N z:Nat) (w:AI) (l:List Nat) (wr:AI):Prop where
 eb:Bk wr z 3 #[.int .i64 N]
 tb:Bk wr (z+2) 51 #[.slice (some ⟨z+1,0,none⟩) N N]
 tg:Bk wr (z+1) 3 (ints (aer N l)).toArray
 below:No z w wr
end Go.Proofs.YtjbcbnemdhbhbaaGreatDoor
namespace Go.Proofs.YtjbcbnemdhbhbaaGreatDoor
open Go.Proofs.Tryz
def ec (l:List UInt8):List UInt8:=l.flatMap fun b=>if b=0 then [0,255]else [b]
theorem lF(b:UInt8)(l:List UInt8):ec (b::l)=(if b=0 then [0,255]else [b])++ec l:=rfl
theorem nF(a b:List UInt8):ec (a++b)=ec a++ec b:=by unfold ec;simp
theorem pX(l:List UInt8):l.length<=(ec l).length/\(ec l).length<=2*l.length:=by
 induction l with
 | nil=>exact⟨AS _,AS _⟩
 | cons b l ih=>
  rw[lF,BY,abB];split<;>simp<;>omega
theorem LK{l:List UInt8}(h:l.count 0=0):ec l=l:=by
 induction l with
 | nil=>rfl
 | cons b l ih=>
  rw[List.count_cons]at h;have hb:b≠0:=fun e=>by subst e;simp at h
  rw[lF,if_neg hb,ih (by omega)];rfl
theorem kz:∀(l:List UInt8) (k:Nat),k=l.count 0->Lib.replaceK [0] [0,255] k l=ec l
 | [],k,hk=>by subst hk;rfl
 | b::l,k,hk=>by
  rw[List.count_cons]at hk;by_cases hb:b=0
  ·subst hb
   obtain rfl:k=l.count 0+1:=by rw[hk];rfl
   rw[Lib.replaceK_hit _ _ _ _ 0 (by unfold Lib.index;rfl),lF,if_pos rfl,<-kz l _ rfl];rfl
  ·have bO:k=l.count 0:=by rw[hk,if_neg (by simpa using hb)];rfl
   have ih:=kz l k bO;cases k with
   | zero=>rw[LK (by rw[List.count_cons,<-bO,if_neg (by simpa using hb)])];rfl
   | succ k=>
    have hc:0<Lib.count l [0]:=by rw[Lib.count_one];omega
    obtain⟨i,hi⟩:=Lib.index_of_count hc;have hj:Lib.index (b::l) [0]=((i+1:Nat):Int):=by
     rw[Lib.index];have h1:([0]:List UInt8).isPrefixOf (b::l)=false:=by simpa[List.isPrefixOf]using fun e=>hb e.symm
     have h2:((i:Int)== -1)=false:=by rw[beq_eq_false_iff_ne];omega
     rw[h1,hi,h2];simp
    rw[Lib.replaceK_hit _ _ _ _ _ hi]at ih;rw[Lib.replaceK_hit _ _ _ _ _ hj,lF,if_neg hb,<-ih];simp[List.drop,Nat.add_right_comm]
theorem B4(l:List UInt8):Lib.replaceAll l [0] [0,255]=ec l:=by
 unfold Lib.replaceAll Lib.replace Lib.replaceNum;rw[if_neg (by decide),if_pos (.inl (by decide))];exact kz l _ (Lib.count_one 0 l)
def bq (ps:List ByteArray):List UInt8:=ps.flatMap fun p=>ec p.data.toList++[0,1]
theorem xD(p:ByteArray)(ps:List ByteArray):bq (p::ps)=ec p.data.toList++[0,1]++bq ps:=rfl
theorem mh(a b:List ByteArray):bq (a++b)=bq a++bq b:=by unfold bq;simp
def Ss (ps:List ByteArray):Prop:=(∀p∈ps,p.size<=4096)/\(bq ps).length<=4096
theorem Cv{ps:List ByteArray}{p:ByteArray}(hp:p∈ps):p.size<=(bq ps).length:=by
 induction ps with
 | nil=>cases hp
 | cons x ps ih=>
  rw[xD,BY,BY];rcases IT.1 hp with rfl|h
  ·have h1:=(pX p.data.toList).1
   have h2:p.data.toList.length=p.size:=ack;omega
  ·have:=ih h
   omega
theorem mR(ps:List ByteArray):Ss ps↔(bq ps).length<=4096:=⟨fun h=>h.2,fun h=>⟨fun p hp=>abE (Cv hp) h,h⟩⟩
def JN (ps:List ByteArray):ByteArray:=if (bq ps).length<=4096 then ⟨(bq ps).toArray⟩else ⟨#[]⟩
def aR (t:Tl3):ByteArray:=if (bq [t.name,t.key,t.val]).length<=4096 then ⟨(bq [t.name,t.key,t.val]).toArray⟩else JN [t.name,t.key]++t.val
theorem Oo{n k:ByteArray}(h1:n.size<=120)(h2:k.size<=120):(bq [n,k]).length<=484:=by
 have g1:=(pX n.data.toList).2;have g2:=(pX k.data.toList).2;have e1:n.data.toList.length=n.size:=ack;have e2:k.data.toList.length=k.size:=ack;simp[bq];omega
end Go.Proofs.YtjbcbnemdhbhbaaGreatDoor
namespace Go.Proofs.YtjbcbnemdhbhbaaGreatDoor
open Go.Proofs.Tryz
open Go.RowKit
structure fW (fc:Nat) (cR:Array IS) (Z:List Nat) (I:List Tl3->List Nat->AI->Prop) (D:List Tl3->AI->Prop):Prop where
 enter:∀args W,Sem.run prog (callFunc fc args) W= .ok (.enter fc args) W
 keep:∀(l:List Tl3) (X:List Nat) (w w':AI) (U:List Nat),I l X w->ah U w w'->(∀x∈X,x∉U)->(∀x∈Z,x∉U)->I l X w'
 old:∀(l:List Tl3) (X:List Nat) (w:AI),I l X w->∀x∈X,x<w.heap.size
 yf:∀(l:List Tl3) (X:List Nat) (w:AI) (t:Tl3),I l X w->l.length<100000->t.name.size<=120->t.key.size<=120->t.val.size<=4000->aag prog fc (#[.string t.name,.string t.key,.string t.val]++cR) w (fun e w'=>ah X w w'/\((e= .returned (.bool true)/\∃X',(∀x∈X',x∈X\/w.heap.size<=x)/\I (l++[t]) X' w')\/(e= .returned (.bool false)/\D l w')))
structure j7 (X0:List Nat) (I:List Tl3->List Nat->AI->Prop) (w:AI) (sp b:Nat) (K:Kr) (i:Int) (m:aL) (pv:IS) (Fo:Forest) (ns:IS) (l:List Tl3) (X:List Nat) (wr:AI):Prop where
 snap:SnapOn wr sp b K i m pv Fo
 names:wr.ownsRow w.heap.size 9 1 ns Fo.main.L.length (ek Fo.main.L)
 inv:I l X wr
 off:ah X0 w wr
 new:∀x∈X,x∈X0\/w.heap.size<=x
 ap:∀g,ns.ownBlock=some g->g∉X
theorem j7.under{X0 X Z:List Nat}{I:List Tl3->List Nat->AI->Prop}{D:List Tl3->AI->Prop}{fc:Nat}{cR:Array IS}(hI:fW fc cR Z I D){w wr w':AI}{sp b:Nat}{K:Kr}{i:Int}{m:aL}{pv:IS}{Fo:Forest}{ns:IS}{l:List Tl3}(h:j7 X0 I w sp b K i m pv Fo ns l X wr)(hb:No wr.heap.size wr w'):j7 X0 I w sp b K i m pv Fo ns l X w':=
 ⟨h.snap.below hb,(ah.ae hb []).own h.names (by simp),hI.keep l X wr w' [] h.inv (ah.ae hb []) (by simp) (by simp),h.off.trans (ah.ae hb X0),h.new,h.ap⟩
structure jI (X0:List Nat) (I:List Tl3->List Nat->AI->Prop) (w:AI) (sp b:Nat) (K:Kr) (i:Int) (m:aL) (pv:IS) (Fo:Forest) (ns:IS) (cu:Nat) (x:ByteArray) (l:List Tl3) (k:Nat) (wi:AI) (X U:List Nat):Prop where
 at_:j7 X0 I w sp b K i m pv Fo ns l X wi
 cur:fQ (dj K) K.blocks K.cF cu (Fo.tr x).root X (Fo.tr x).L wi U (we (Fo.tr x).L k)
 uB:∀u∈U,w.heap.size<=u/\(∀g,ns.ownBlock=some g->u≠g)
theorem jI.under{X0 X Z:List Nat}{I:List Tl3->List Nat->AI->Prop}{D:List Tl3->AI->Prop}{fc:Nat}{cR:Array IS}(hI:fW fc cR Z I D){w wi w':AI}{sp b:Nat}{K:Kr}{i:Int}{m:aL}{pv:IS}{Fo:Forest}{ns:IS}{cu:Nat}{x:ByteArray}{l:List Tl3}{k:Nat}{U:List Nat}(h:jI X0 I w sp b K i m pv Fo ns cu x l k wi X U)(hb:No wi.heap.size wi w'):jI X0 I w sp b K i m pv Fo ns cu x l k w' X U:=
 ⟨h.at_.under hI hb,h.cur.below (bT h.at_.snap.ok) hb,h.uB⟩
theorem jI.did{X0 X X' Z:List Nat}{I:List Tl3->List Nat->AI->Prop}{D:List Tl3->AI->Prop}{fc:Nat}{cR:Array IS}(hI:fW fc cR Z I D){w wi w':AI}{sp b:Nat}{K:Kr}{i:Int}{m:aL}{pv:IS}{Fo:Forest}{ns:IS}{cu:Nat}{x:ByteArray}{l l':List Tl3}{k:Nat}{U:List Nat}(h:jI X0 I w sp b K i m pv Fo ns cu x l k wi X U)(ho:ah X wi w')(hX':∀x∈X',x∈X\/wi.heap.size<=x)(hi:I l' X' w')(hX:∀x∈X0,x≠sp/\x≠b/\x∉K.blocks)(hs:sp<w.heap.size)(hb:b<w.heap.size)(hK:∀y∈K.blocks,y<w.heap.size):jI X0 I w sp b K i m pv Fo ns cu x l' k w' X' U:=by
 have hp:=bT h.at_.snap.ok;have iP:∀y∈X,y≠sp/\y≠b/\y∉K.blocks:=fun y hy=>(h.at_.new y hy).elim (hX y) fun h9=>⟨by omega,by omega,fun hm=>by have:=hK y hm;omega⟩;refine⟨⟨h.at_.snap.off ho (fun hm=>(iP _ hm).1 rfl) (fun hm=>(iP _ hm).2.1 rfl) (fun y hy hm=>(iP _ hm).2.2 hy),ho.own h.at_.names (fun g hg hm=>h.at_.ap g hg hm),hi,h.at_.off.then ho (fun g hg=>h.at_.new g hg),fun y hy=> ?_,fun g hg hm=> ?_⟩,h.cur.more hp ho (fun b hb=>hb) (fun b hb=>⟨hI.old _ _ _ hi b hb,hX' b hb⟩),h.uB⟩
 ·rcases hX' y hy with h9|h9
  ·exact h.at_.new y h9
  ·exact .inr (abE h.at_.off.size h9)
 ·rcases hX' g hm with h9|h9
  ·exact h.at_.ap g hg h9
  ·have:=(abr h.at_.names g hg).2
   omega
theorem jI.next{X0 X Z:List Nat}{I:List Tl3->List Nat->AI->Prop}{D:List Tl3->AI->Prop}{fc:Nat}{cR:Array IS}(hI:fW fc cR Z I D){w wi w':AI}{sp b:Nat}{K:Kr}{i:Int}{m:aL}{pv:IS}{Fo:Forest}{ns:IS}{cu:Nat}{x:ByteArray}{l:List Tl3}{k k':Nat}{o:Option Nat}{U:List Nat}(h:jI X0 I w sp b K i m pv Fo ns cu x l k wi X U)(hc:gk (dj K) K.blocks K.cF cu (Fo.tr x).root X (Fo.tr x).L wi U o w')(ho:o=we (Fo.tr x).L k')(hs:sp<w.heap.size)(hb:b<w.heap.size)(hK:∀y∈K.blocks,y<w.heap.size)(hZ:∀y∈Z,y<w.heap.size):∃U',jI X0 I w sp b K i m pv Fo ns cu x l k' w' X U':=by
 subst ho;obtain⟨U',g1,g2,g3,g4⟩:=hc;have hn:∀y,y<w.heap.size->y∉U:=fun y hy hm=>by have:=(h.uB y hm).1;omega
 have iQ:∀y∈X,y∉U:=fun y hy hu=>by
  obtain⟨v,ls,hc,-⟩:=h.cur;exact hc.Ks y hu hy
 refine⟨U',⟨h.at_.snap.off g2 (hn _ hs) (hn _ hb) (fun y hy=>hn y (hK y hy)),g2.own h.at_.names (fun g hg hm=>(h.uB g hm).2 g hg rfl),hI.keep _ _ _ _ U h.at_.inv g2 iQ (fun y hy=>hn y (hZ y hy)),h.at_.off.then g2 (fun g hg=> .inr (h.uB g hg).1),h.at_.new,h.at_.ap⟩,g1,fun u hu=>(g3 u hu).elim (h.uB u) (fun h9=>⟨abE h.at_.off.size h9,fun g hg e=> ?_⟩)⟩;have:=(abr h.at_.names g hg).2;omega
theorem wy{X0 Z:List Nat}{I:List Tl3->List Nat->AI->Prop}{D:List Tl3->AI->Prop}{fc:Nat}{cR:Array IS}(hI:fW fc cR Z I D){w:AI}{sp b:Nat}{K:Kr}{i:Int}{m:aL}{pv:IS}{Fo:Forest}(h:SnapOn w sp b K i m pv Fo)(h0:I [] X0 w)(hX:∀x∈X0,x≠sp/\x≠b/\x∉K.blocks)(hZ:∀x∈Z,x<w.heap.size)(hlen:Fo.main.L.length<=10000)(hT:(Fo.cB Fo.main.L).length<=100000):
  aag prog 87 #[.pointer (some ⟨sp,0,none⟩),.func (.func fc) #[] cR] w (fun e w'=>e= .returned (.int .i64 0)/\ah X0 w w'/\((∃X,I (Fo.cB Fo.main.L) X w')\/∃l,l <+: Fo.cB Fo.main.L/\l.length<100000/\D l w')):=by
 have HN:=sh (sS h hlen);have ad6:=sh hT;clear hT;have HH:=sh h;have H0:=sh h0;have HX:=sh hX;have HZ:=sh hZ;have HXO:=sh (hI.old [] X0 w h0);have wO:=hI.enter;clear h h0 hX hZ;go_enter func87,ntmps87
 go_wp2_with fail
 refine HN.out.mono ?_;rintro e w1 ⟨ar,ns,rfl,jP⟩;obtain⟨A,c,rfl,-,dC,-,-,-⟩:=cT jP;have DW:c<=9223372036854775807:=by unfold abi at dC;omega
 have h1:∃X,Hid (j7 X0 I w sp b K i m pv Fo (.slice A Fo.main.L.length c) [] X w1):=⟨X0,sh ⟨HH.out.below ar,jP,hI.keep [] X0 w w1 [] H0.out (ah.ae ar []) (by simp) (by simp),ah.ae ar X0,fun x hx=> .inl hx,fun g hg hm=>by have h8:=HXO.out g hm;have h9:=(abr jP g hg).1;omega⟩⟩;clear ar jP dC;go_wp2_with fail
 go_loopw [24] (fun iv wr=>∃j:Nat,iv= .int .i64 j/\j<=Fo.main.L.length/\∃X,Hid (j7 X0 I w sp b K i m pv Fo (.slice A Fo.main.L.length c) (Fo.cB (Fo.main.L.take j)) X wr)) (fun iv _=>Fo.main.L.length-(intOf iv).toNat)
 case atStart=>exact⟨0,rfl,abc _,by simpa[Forest.cB]using h1⟩
 case round=>
  obtain⟨j,rfl,hj,X1,HE⟩:=hrel;by_cases aI:j<Fo.main.L.length
  ·have z2:decide ((j:Int)<(Fo.main.L.length:Int))=true:=decide_eq_true (by omega)
   obtain⟨x,hx⟩:∃x,x=Fo.main.L[j].cell.key:=⟨_,rfl⟩;have oN:eg x:=by rw[hx];exact(HE.out.snap.fo.key HE.out.snap.told (abw aI)).2.1
   obtain⟨b9,o9,rfl,jt,p0⟩:=(Sl.eG HE.out.names) j (.string x) (by rw[hx];simp[ek,aI]);have XP:=sh (Ci HE.out.snap x oN);have qj:x.size<=120:=by unfold eg at oN;omega
   have hp:=bT HE.out.snap.ok;have HWH:=sh (show Whole K.cF (Fo.tr x).root (Fo.tr x).L from (HE.out.snap.fo.each x).whole (HE.out.snap.fo.Ri x));have CK:=sh (Fk (Fo:=Fo) aI);rw[<-hx]at CK;have QV:=HE.out.off.size;clear hx h1;go_wp2_with fail
   refine XP.out.mono ?_;rintro e w2 ⟨cu,rfl,az,Vh,L5⟩;have qo:=Bk.lt HH.out.snap;have Xf:b<w.heap.size:=by obtain⟨cs,g1,-⟩:=HH.out.db;exact g1.lt
   have OJ:=sh (hp.old HH.out.at_);have J4:=sh (L5.wide (R':=X1) (fun g hg=>by
    have h8:=hI.old _ _ _ HE.out.inv g hg;have h9:=az.size;refine⟨by omega,(HE.out.new g hg).elim (fun h=>(HX.out g h).2.2) (fun h hm=>by have:=OJ.out g hm;omega),fun hm=> ?_⟩;rw[By]at hm;omega))
   have HE2:=sh (HE.out.under hI az);have HF:=sh (Ah hp (o:=none) (L:=(Fo.tr x).L) ⟨_,[],J4.out,rfl⟩ HWH.out);clear az L5;go_wp2_with fail
   refine HF.out.mono ?_;rintro e w3 ⟨rfl,CT⟩;obtain⟨L',hL'⟩:∃L',L'=(Fo.tr x).L:=⟨_,rfl⟩;have dv:jI X0 I w sp b K i m pv Fo (.slice (some ⟨b9,o9,none⟩) Fo.main.L.length c) cu x (Fo.cB (Fo.main.L.take j)) (Fo.tr x).L.length w2 X1 [cu]:=⟨HE2.out,⟨_,[],J4.out,by unfold we;rw[if_neg (by omega)];rfl⟩,fun u hu=>by
    rw[By]at hu;subst hu;refine⟨abE QV Vh,fun g hg e=> ?_⟩;have:=(abr HE.out.names g hg).2;omega⟩
   have h3:∃X U,Hid (jI X0 I w sp b K i m pv Fo (.slice (some ⟨b9,o9,none⟩) Fo.main.L.length c) cu x (Fo.cB (Fo.main.L.take j)++((Fo.tr x).L.take 0).map fun y=>⟨x,y.cell.key,⟨y.val.toArray⟩⟩) 0 w3 X U):=by
    obtain⟨U,h9⟩:=dv.next hI CT (k':=0) (by unfold we;cases (Fo.tr x).L<;>simp) qo Xf OJ.out HZ.out;exact⟨X1,U,sh (by simpa using h9)⟩
   have e0:decide ((Fo.tr x).L≠[])=decide (0<(Fo.tr x).L.length):=by cases (Fo.tr x).L<;>simp
   rw[e0];clear CT dv HF e0 hL';go_wp2_with fail
   go_loopg [10,11] ((Fo.tr x).L.length) (fun g er ok wi=>∃k:Nat,ok= .bool (decide (k<(Fo.tr x).L.length))/\er= .int .i64 0/\k<=(Fo.tr x).L.length/\(Fo.tr x).L.length-k<=g/\∃X U,Hid (jI X0 I w sp b K i m pv Fo (.slice (some ⟨b9,o9,none⟩) Fo.main.L.length c) cu x (Fo.cB (Fo.main.L.take j)++((Fo.tr x).L.take k).map fun y=>⟨x,y.cell.key,⟨y.val.toArray⟩⟩) k wi X U))
   case atStart=>exact⟨0,rfl,rfl,abc _,by omega,h3⟩
   case round=>
    obtain⟨k,rfl,rfl,hk,hg,X2,U,J7⟩:=hrel;by_cases gT:k<(Fo.tr x).L.length
    ·rw[decide_eq_true gT]
     have cL:we (Fo.tr x).L k=some k:=by unfold we;rw[if_pos gT]
     obtain⟨y,hy⟩:∃y,y=(Fo.tr x).L[k]:=⟨_,rfl⟩;have HV:=sh (zS hp (by have h9:=J7.out.cur;rw[cL]at h9;exact h9) gT (HE.out.snap.fo.each x).nE);have hva:GU (Fo.tr x).L (some k)=y.val:=by rw[hy];simp[GU,gT]
     rw[hva]at HV;have R8:=sh fun(W:AI) (hb:No _ _ W)=>MU (J7.out.under hI hb).cur;have uS:(cellAt (Fo.tr x).L (we (Fo.tr x).L k)).key=y.cell.key:=by rw[cL,hy];simp[cellAt,gT]
     rw[uS]at R8;obtain⟨s,hs⟩:∃s,s=(⟨y.val.toArray⟩:ByteArray):=⟨_,rfl⟩;have wO:=(HE.out.snap.fo.each x).nE y (by rw[hy];exact abw gT);have abh:y.cell.key.size<=120:=by
      have h9:=wO.1;unfold Nd.aY at h9;split at h9<;> · simp at h9;omega
     have vz:s.size<=4000:=by
      have e1:s.size=y.val.length:=by rw[hs];simp[ByteArray.size]
      have h9:=wO.1;rcases wO.2 with⟨g1,-,g2⟩|⟨g1,-,g2⟩
      ·unfold Nd.aY at h9
       rw[if_pos g1]at h9;have e2:y.cell.val.data.toList.length=y.cell.val.size:=ack;rw[g2]at e1;simp at h9;omega
      ·unfold Nd.aY at h9
       rw[if_neg g1]at h9;simp at h9;omega
     obtain⟨kk,Mf⟩:∃kk,kk=y.cell.key:=⟨_,rfl⟩;rw[<-hs]at HV;rw[<-Mf]at R8 abh;have PB:=sh (show ((Fo.tr x).L.take (k+1)).map (fun y=>(⟨x,y.cell.key,⟨y.val.toArray⟩⟩:Tl3))=((Fo.tr x).L.take k).map (fun y=>⟨x,y.cell.key,⟨y.val.toArray⟩⟩)++[⟨x,kk,s⟩] from by
      rw[aaT gT,abH,Mf,hs,hy];rfl)
     clear cL hva uS hs Mf hy h3 wO;go_wp2_with fail
     refine HV.out.mono ?_;rintro e w4 ⟨rfl,b7⟩;have HI4:=sh (J7.out.under hI b7);have Po:=sh (R8.out w4 b7);clear b7 HV R8;go_wp2_with fail
     refine Po.out.mono ?_;rintro e w5 ⟨rfl,dO⟩;have WR:=sh (HI4.out.under hI dO);have e9:Fo.cB Fo.main.L=(Fo.cB (Fo.main.L.take j)++(Fo.tr x).L.map fun y=>⟨x,y.cell.key,⟨y.val.toArray⟩⟩)++Fo.cB (Fo.main.L.drop (j+1)):=by
      rw[<-CK.out];unfold Forest.cB;rw[<-Tr.aC,abm]
     have HPF:=sh (show (Fo.cB (Fo.main.L.take j)++((Fo.tr x).L.take k).map fun y=>(⟨x,y.cell.key,⟨y.val.toArray⟩⟩:Tl3)) <+: Fo.cB Fo.main.L by
      refine⟨(((Fo.tr x).L.drop k).map fun y=>⟨x,y.cell.key,⟨y.val.toArray⟩⟩)++Fo.cB (Fo.main.L.drop (j+1)),?_⟩;rw[e9,<-OF,OF (Fo.cB (Fo.main.L.take j)),<-abH,abm])
     have HLT:=sh (show (Fo.cB (Fo.main.L.take j)++((Fo.tr x).L.take k).map fun y=>(⟨x,y.cell.key,⟨y.val.toArray⟩⟩:Tl3)).length<100000 by
      have e2:=ad6.out;rw[e9,BY,BY,aae]at e2;rw[BY,aae,abv];omega)
     clear e9;have HD:=sh (hI.yf _ _ w5 ⟨x,kk,s⟩ WR.out.at_.inv HLT.out qj abh vz);clear dO Po;go_wp2_with fail
     refine HD.out.mono ?_;rintro e w6 ⟨gY,⟨rfl,X3,hx6,hi6⟩|⟨rfl,hd6⟩⟩
     rotate_left
     ·have bV:=sh (show ah X0 w w6/\∃l,l <+: Fo.cB Fo.main.L/\l.length<100000/\D l w6 from ⟨WR.out.at_.off.then gY (fun g hg=>WR.out.at_.new g hg),_,HPF.out,HLT.out,hd6⟩)
      clear gY hd6 HD;go_wp2_with fail
      go_ret
      exact⟨rfl,bV.out.1,.inr bV.out.2⟩
     have XV:=sh (WR.out.did hI gY hx6 hi6 HX.out qo Xf OJ.out);obtain⟨n1,n2⟩:=zE (Fo.tr x).L k gT;have oc:=sh (Gv hp XV.out.cur);rw[n2]at oc;clear gY hi6 hx6 HD n2;go_wp2_with fail
     refine oc.out.mono ?_;rintro e w7 ⟨rfl,CT⟩;have h7:∃X U,Hid (jI X0 I w sp b K i m pv Fo (.slice (some ⟨b9,o9,none⟩) Fo.main.L.length c) cu x (Fo.cB (Fo.main.L.take j)++((Fo.tr x).L.take (k+1)).map fun y=>⟨x,y.cell.key,⟨y.val.toArray⟩⟩) (k+1) w7 X U):=by
      obtain⟨U',h9⟩:=XV.out.next hI CT n1 qo Xf OJ.out HZ.out;rw[OF]at h9;rw[PB.out];exact⟨X3,U',sh h9⟩
     clear CT oc n1;go_wp2_with fail
     go_roundg ((Fo.tr x).L.length-(k+1))
     case measure=>omega
     case rel=>exact⟨k+1,rfl,rfl,by omega,AS _,h7⟩
    ·rw[decide_eq_false gT]
     have Vv:k=(Fo.tr x).L.length:=by omega
     have HN:=sh (show j7 X0 I w sp b K i m pv Fo (.slice (some ⟨b9,o9,none⟩) Fo.main.L.length c) (Fo.cB (Fo.main.L.take (j+1))) X2 wr from by
      have h9:=J7.out.at_;rw[Vv,acB]at h9;rw[CK.out];exact h9)
     clear h3;go_wp2_with fail
     go_roundw
     case rel=>exact⟨j+1,by go_num,by omega,X2,HN⟩
     case measure=>simp[intOf];omega
  ·have z2:decide ((j:Int)<(Fo.main.L.length:Int))=false:=decide_eq_false (by omega)
   have vo:j=Fo.main.L.length:=by omega
   have bV:=sh (show ah X0 w wr/\I (Fo.cB Fo.main.L) X1 wr from by
    have h9:=HE.out;rw[vo,acB]at h9;exact⟨h9.off,h9.inv⟩)
   clear HE h1;go_wp2_with fail
   go_ret
   exact⟨rfl,bV.out.1,.inl ⟨X1,bV.out.2⟩⟩
def NU (r:Tl3):List IS:=[.string r.name,.string r.key,.string r.val]
def cK (l:List Tl3):List IS:=(l.map NU).flatten
theorem qd(a b:List Tl3):cK (a++b)=cK a++cK b:=by simp[cK]
theorem nK(x:Tl3)(l:List Tl3):cK (x::l)=NU x++cK l:=by simp[cK]
theorem Ih(x:Tl3):cK [x]=NU x:=by simp[cK]
theorem mD:∀l:List Tl3,(cK l).length=l.length*3
 | []=>rfl
 | x::l=>by rw[nK,BY,mD l,abB];show 3+_=_;omega
theorem mC:∀(l:List Tl3) (i:Nat) (h:i<l.length) (j:Nat),j<3->(cK l)[i*3+j]? =(NU l[i])[j]?
 | x::l,0,h,j,hj=>by
  rw[nK,Nat.zero_mul,abU,List.getElem?_append_left (by show j<3;exact hj)];rfl
 | x::l,i+1,h,j,hj=>by
  rw[nK,abX (by show 3<=_;omega),show (i+1)*3+j-(NU x).length=i*3+j by show (i+1)*3+j-3=_;omega];exact mC l i (by simpa using h) j hj
theorem th(l:List Tl3):∀u∈cK l,u.oneCell'=true:=by
 intro u hu;obtain⟨x,hx,hu⟩:=List.mem_flatten.1 hu;obtain⟨e,_,rfl⟩:=List.mem_map.1 hx;simp only[NU,IT,List.not_mem_nil,or_false]at hu;rcases hu with rfl|rfl|rfl<;>rfl
def eD (w:AI) (B:Nat) (v:IS) (l:List Tl3):Prop:=w.ownsRow B 143 3 v l.length (cK l)
theorem eD.below{w w':AI}{B:Nat}{v:IS}{l:List Tl3}(h:eD w B v l)(hb:No w.heap.size w w'):eD w' B v l:=(ah.ae hb []).own h (by simp)
theorem eD.len{w:AI}{B:Nat}{A:Option acn}{n c:Nat}{l:List Tl3}(h:eD w B (.slice A n c) l):n=l.length:=by
 obtain⟨_,_,hv,-,-⟩:=bg h;injection hv
theorem eD.at{w:AI}{B:Nat}{A:Option acn}{n c:Nat}{l:List Tl3}(h:eD w B (.slice A n c) l)(i:Nat)(hi:i<l.length):∃g,A=some ⟨g,0,none⟩/\g<w.heap.size/\w.cell? ⟨g,i*3,none⟩=some (.string l[i].name)/\w.cell? ⟨g,i*3+1,none⟩=some (.string l[i].key)/\w.cell? ⟨g,i*3+2,none⟩=some (.string l[i].val):=by
 obtain⟨_,_,hv,hA,-⟩:=bg h;injection hv with e1 e2 e3;subst e1 e2 e3;obtain⟨g,rfl⟩:=hA (by omega);have hc:=afw h (g:=g) rfl;have ha:∀k,((⟨g,0,none⟩:acn).add k)=⟨g,k,none⟩:=fun k=>by rw[bI,abU]
 have hg:∀k u,(cK l)[k]? =some u->w.cell? ⟨g,k,none⟩=some u:=fun k u hu=>by rw[<-ha k];exact hc k u hu
 exact⟨g,rfl,(abr h g rfl).2,hg _ _ (mC l i hi 0 (by omega)),hg _ _ (mC l i hi 1 (by omega)),hg _ _ (mC l i hi 2 (by omega))⟩
theorem Bm:(prog.info? 143).map (fun i=>(i.zero,i.size,i.bytes))=some (some (.agg #[.string aca,.string aca,.string aca]),3,48):=by kernel_rfl
def so (l:List Tl3) (w:AI) (e:Ending) (w':AI):Prop:=No w.heap.size w w'/\∃g c:Nat,e= .returned (.slice (some ⟨g,0,none⟩) l.length c)/\eD w' w.heap.size (.slice (some ⟨g,0,none⟩) l.length c) l
theorem xm(a b:ByteArray):decide (fV a b<0)=Nd.lt a b:=by
 unfold fV;cases h:Nd.lt a b with
 | true=>rfl
 | false=>cases h2:Nd.lt b a<;>rfl
theorem E2{a b:ByteArray}(h:a=b):fV a b=0:=by subst h;unfold fV;rw[Nd.lt_irrefl];rfl
theorem Cc(a b:Tl3)(w:AI)(h1:a.name.size<=1000000)(h2:a.key.size<=1000000):aag prog 144 #[.agg #[.string a.name,.string a.key,.string a.val],.agg #[.string b.name,.string b.key,.string b.val]] w (fun e w'=>e= .returned (.bool (Tl3.less a b))/\No w.heap.size w w'):=by
 obtain⟨an,ak,av⟩:=a;obtain⟨bn,bk,bv⟩:=b;simp only at h1 h2 |-;have HN:=sh fun(W:AI)=>xl an bn W h1;have HK:=sh fun(W:AI)=>xl ak bk W h2;obtain⟨r,hr⟩:∃r,r=Tl3.less ⟨an,ak,av⟩ ⟨bn,bk,bv⟩:=⟨_,rfl⟩;rw[<-hr];obtain⟨x,hx⟩:∃x,x=fV an bn:=⟨_,rfl⟩;obtain⟨y,hy⟩:∃y,y=fV ak bk:=⟨_,rfl⟩;rw[<-hx]at HN;rw[<-hy]at HK;have fj:(decide (x<0)=true/\r=true)\/(decide (x<0)=false/\(x==0)=true/\decide (y<0)=r)\/(decide (x<0)=false/\(x==0)=false/\r=false):=by
  have We:decide (x<0)=Nd.lt an bn:=by rw[hx];exact xm _ _
  have hyn:decide (y<0)=Nd.lt ak bk:=by rw[hy];exact xm _ _
  rcases Nd.iF an bn with h|h|h
  ·exact .inl ⟨We.trans h,by rw[hr];unfold Tl3.less;simp[h]⟩
  ·refine .inr (.inl ⟨?_,by rw[hx,E2 h];rfl,?_⟩)
   ·rw[We,h,Nd.lt_irrefl]
   ·rw[hyn,hr,h];unfold Tl3.less;simp[Nd.lt_irrefl]
  ·have h9:Nd.lt an bn=false:=Nd.lt_asymm h
   have h8:an≠bn:=fun e=>by rw[e,Nd.lt_irrefl]at h;cases h
   refine .inr (.inr ⟨We.trans h9,?_,?_⟩)
   ·have:x=1:=by rw[hx];unfold fV;rw[h9,h];rfl
    rw[this];rfl
   ·rw[hr];unfold Tl3.less;simp[h9,h8]
 clear hx hy hr;rcases fj with⟨z1,rfl⟩|⟨z1,z2,z3⟩|⟨z1,z2,rfl⟩;all_goals
  go_enter func144,ntmps144
  go_wp2_with fail
  refine(HN.out _).mono ?_;rintro e w1 ⟨rfl,ar⟩;have oe:=af ((Bk.new w 143 #[.string an,.string ak,.string av]).alloc (.cells #[.string bn,.string bk,.string bv] 143)) ar;have dw:=af (show Bk ((w.alloc (.cells #[.string an,.string ak,.string av] 143)).alloc (.cells #[.string bn,.string bk,.string bv] 143)) (w.heap.size+1) 143 #[.string bn,.string bk,.string bv] from by have h:=Bk.new (w.alloc (.cells #[.string an,.string ak,.string av] 143)) 143 #[.string bn,.string bk,.string bv];simpa using h) ar;have HB:=sh ((((IN _ w).alloc (AS _) (.cells #[.string an,.string ak,.string av] 143)).alloc (by simp) (.cells #[.string bn,.string bk,.string bv] 143)).trans (ar.mono (by simp;omega)));have q1:w1.cell? ⟨w.heap.size,1,none⟩=some (.string ak):=oe.cell 1;have q2:w1.cell? ⟨w.heap.size+1,1,none⟩=some (.string bk):=dw.cell 1;have l1:=oe.lt;have l2:=dw.lt;clear ar oe dw;go_wp2_with fail
 ·go_ret
  exact⟨rfl,HB.out⟩
 ·refine(HK.out _).mono ?_
  rintro e w2 ⟨rfl,az⟩;have bz:=sh (HB.out.trans (az.mono HB.out.size));clear az;go_wp2_with fail
  go_ret
  exact⟨rfl,bz.out⟩
 ·go_ret
  exact⟨rfl,HB.out⟩
theorem eD.bJ{w:AI}{B m:Nat}{v:IS}{l:List Tl3}(h:eD w B v l)(hm:m=l.length)(o:Obj):(w.alloc o).ownsRow B 143 3 v m (cK l):=by
 subst hm;exact h.below ((IN _ w).alloc (AS _) o)
theorem cO{w:AI}{B n s c:Nat}{A:Option acn}{e:TypeId}{xs:List IS}(h:w.ownsRow B e s (.slice A n c) n xs)(h0:0<n):∃g,A=some ⟨g,0,none⟩:=by
 obtain⟨_,_,hv,hA,-⟩:=bg h;injection hv with e1 e2 e3;subst e1;exact hA (by omega)
theorem eD.NC{w:AI}{B m:Nat}{v:IS}{l:List Tl3}(h:eD w B v l)(hm:m=l.length):w.ownsRow B 143 3 v m (cK l):=by
 subst hm;exact h
theorem l6{w:AI}{base zH n s:Nat}{e:TypeId}{v:IS}{xs:List IS}(h:w.ownsRow base e s v n xs)(hb:zH<=base):w.ownsRow zH e s v n xs:=by
 obtain⟨h1,h2⟩:=h;refine⟨h1,?_⟩;rcases h2 with h2|⟨g,cap,cur,a,b,r⟩
 ·exact .inl h2
 ·exact .inr ⟨g,cap,cur,a,abE hb b,r⟩
structure Rg (w:AI) (v:IS) (l:List Tl3) (wr:AI):Prop where
 own:eD wr w.heap.size v l
 below:No w.heap.size w wr
theorem Rg.next{w wr w2:AI}{A A2:Option acn}{m c c2:Nat}{l l':List Tl3}{x:Tl3}{o:Obj}(h:Rg w (.slice A m c) l wr)(hm:m=l.length)(hl:l'=l++[x])(ho:w2.ownsRow w.heap.size 143 3 (.slice A2 (m+1) c2) (m+1) (cK l++NU x))(hg:(wr.alloc o).grownBy w2 (acf A m c).ownBlock):m+1=l'.length/\Rg w (.slice A2 (m+1) c2) l' w2:=by
 subst hm hl;refine⟨by simp,?_,?_⟩
 ·unfold eD
  rw[qd,Ih,BY];exact ho
 ·exact((ah.ae (h.below.alloc h.below.size o) []).grown hg (fun g hg=> .inr (abr h.own g hg).1)).below (AS _) (by simp)
theorem LD{name key:ByteArray}{l:List Tl3}{j:Nat}(h:j<l.length):Tl3.del name key (l.take (j+1))=Tl3.del name key (l.take j)++(if Tl3.at_ name key l[j]=true then []else [l[j]]):=by
 unfold Tl3.del;rw[aaT h,List.filter_append];cases hc:Tl3.at_ name key l[j]with
 | true=>rw[List.filter_cons_of_neg (by simp[hc])];rfl
 | false=>rw[List.filter_cons_of_pos (by simp[hc])];rfl
theorem uo{w:AI}{B:Nat}{A:Option acn}{n c:Nat}{l:List Tl3}(h:eD w B (.slice A n c) l)(hl:l.length<=10000)(name key:ByteArray):
  aag prog 83 #[.slice A n c,.string name,.string key] w (so (Tl3.del name key l) w):=by
 obtain rfl:=h.len;obtain⟨i0,hi,ef,dK,dY⟩:=info_parts Bm;have HP:=sh h;clear h;have fP:=sh (show Rg w (.slice (some ⟨w.heap.size,0,none⟩) 0 0) (Tl3.del name key (l.take 0)) (w.alloc (.cells #[] 143)) from ⟨adD w #[] 0 (AS _) (by unfold abi;omega) rfl,(IN _ w).alloc (AS _) _⟩);go_enter func83,ntmps83
 go_wp2_with fail
 go_loopw [7,8] (fun ov iv wr=>∃(j m g':Nat) (c':Nat),iv= .int .i64 j/\j<=l.length/\ov= .slice (some ⟨g',0,none⟩) m c'/\m<=j/\Hid (m=(Tl3.del name key (l.take j)).length/\Rg w (.slice (some ⟨g',0,none⟩) m c') (Tl3.del name key (l.take j)) wr)) (fun _ iv _=>l.length-(intOf iv).toNat)
 case atStart=>exact⟨0,0,_,_,rfl,abc _,rfl,AS _,sh ⟨rfl,fP.out⟩⟩
 case round=>
  obtain⟨j,m,g',c',rfl,hj,rfl,hm,HR⟩:=hrel;obtain⟨A',nM⟩:∃A':Option acn,A'=some ⟨g',0,none⟩:=⟨_,rfl⟩;rw[<-nM]at HR |-;have HAG:=sh nM;clear nM;by_cases aI:j<l.length
  ·have z1:decide ((j:Int)<(l.length:Int))=true:=decide_eq_true (by omega)
   obtain⟨g,rfl,lg,q0,q1,q2⟩:=(HP.out.below HR.out.2.below).at j aI;obtain⟨nm,qj⟩:∃nm,nm=l[j].name:=⟨_,rfl⟩;obtain⟨ky,Mh⟩:∃ky,ky=l[j].key:=⟨_,rfl⟩;obtain⟨vl,IW⟩:∃vl,vl=l[j].val:=⟨_,rfl⟩;rw[<-qj]at q0;rw[<-Mh]at q1;rw[<-IW]at q2;have mY:=LD (name:=name) (key:=key) aI;have bc:l[j]=⟨nm,ky,vl⟩:=by rw[qj,Mh,IW]
   rw[bc]at mY;have fF:Sl wr (some ⟨g,j*3,none⟩) (NU ⟨nm,ky,vl⟩):=fun i u hu=>by
    have Xn:i<3:=(List.getElem?_eq_some_iff.1 hu).1;refine⟨g,j*3,rfl,lg,?_⟩
    match i,Xn with
    | 0,_=>simp[NU]at hu;rw[<-hu];exact q0
    | 1,_=>simp[NU]at hu;rw[<-hu];exact q1
    | 2,_=>simp[NU]at hu;rw[<-hu];exact q2
   clear fF qj Mh IW bc fP;have fj:((nm.toList==name.toList)=true/\(ky.toList==key.toList)=true/\Tl3.at_ name key ⟨nm,ky,vl⟩=true)\/((nm.toList==name.toList)=true/\(ky.toList==key.toList)=false/\Tl3.at_ name key ⟨nm,ky,vl⟩=false)\/((nm.toList==name.toList)=false/\Tl3.at_ name key ⟨nm,ky,vl⟩=false):=by
    have e1:∀a b:ByteArray,(a.toList==b.toList)=decide (a=b):=fun a b=>by
     by_cases h:a=b
     ·subst h;simp
     ·rw[decide_eq_false h]
      rw[beq_eq_false_iff_ne];exact fun e=>h (Nd.gx e)
    unfold Tl3.at_;rw[e1,e1];by_cases h1:nm=name<;>by_cases h2:ky=key<;>simp[h1,h2]
   rcases fj with⟨e1,e2,e3⟩|⟨e1,e2,e3⟩|⟨e1,e3⟩
   ·rw[if_pos e3,List.append_nil]at mY
    have HN:=sh (show m=(Tl3.del name key (l.take (j+1))).length/\Rg w (.slice A' m c') (Tl3.del name key (l.take (j+1))) wr by rw[mY];exact HR.out);clear mY e3;go_wp2_with fail
    go_roundw
    case rel=>exact⟨j+1,m,g',c',by go_num,by omega,by rw[HAG.out],by omega,by rw[<-HAG.out];exact HN⟩
    case measure=>simp[intOf];omega
   all_goals
    rw[if_neg (by rw[e3];simp)]at mY;have oc:=sh mY;clear mY e3;go_wp2_with (first
     | (at_builtin;refine aD _ rfl (.tmp 32) (.tmp 37) 31 rfl w.heap.size 143 i0 _ 3 48 underlying31 hi ef dK dY rfl (by omega) (.slice A' m c') m (cK (Tl3.del name key (l.take j))) rfl ((show eD wr w.heap.size (.slice A' m c') (Tl3.del name key (l.take j)) from HR.out.2.own).bJ HR.out.1 _) (some ⟨wr.heap.size,0,none⟩) 1 1 [.string nm,.string ky,.string vl] rfl rfl (fun hh=>by cases hh) (fun ad eo=>by
       injection eo with eo;subst eo;exact abV (cs:= #[.string nm,.string ky,.string vl]) (acb wr _)) (by simp[acA]) (by unfold abi;omega) (by omega) (by have:=HR.out.2.below.size;simp;omega) ?_;intro A2 c2 w2 bf iu;obtain⟨g2,tA⟩:=cO bf (by omega);have RT:=sh tA;have HN:=sh (HR.out.2.next HR.out.1 oc.out bf iu);clear bf iu tA)
     | fail)
    go_roundw
    case rel=>exact⟨j+1,m+1,g2,c2,by go_num,by omega,by rw[RT.out],by omega,by rw[<-RT.out];exact HN⟩
    case measure=>simp[intOf];omega
  ·have z1:decide ((j:Int)<(l.length:Int))=false:=decide_eq_false (by omega)
   obtain rfl:j=l.length:=by omega
   have HE:=sh (show so (Tl3.del name key l) w (.returned (.slice A' m c')) wr from by
    have h9:=HR.out;rw[acB]at h9;obtain⟨h8,h7⟩:=h9;subst h8;exact⟨h7.below,g',c',by rw[HAG.out],by rw[<-HAG.out];exact h7.own⟩)
   clear HR fP;go_wp2_with fail
   go_ret
   exact HE.out
theorem eD.parts{w:AI}{B:Nat}{A:Option acn}{n c:Nat}{l:List Tl3}(h:eD w B (.slice A n c) l)(i:Nat)(hi:i<=l.length):∀g,A=some ⟨g,0,none⟩->∀j u,(cK (l.drop i))[j]? =some u->w.cell? ((⟨g,i*3,none⟩:acn).add j)=some u:=by
 intro g hA j u hu;subst hA;have hc:=afw h (g:=g) rfl (i*3+j) u (by
  have e:l=l.take i++l.drop i:=(abm i l).symm;have hl:(cK (l.take i)).length=i*3:=by rw[mD,abv];omega
  rw[e,qd,abX (by omega),hl,Nat.add_sub_cancel_left];exact hu)
 rw[bI]at hc |-
 rwa [abU]at hc
theorem Nz{w:AI}{B n c s:Nat}{A:Option acn}{e:TypeId}{xs:List IS}(h:w.ownsRow B e s (.slice A n c) n xs):n<=c:=by
 rcases h.2 with⟨h0,h1⟩|⟨g',DA,cur,hv,hg,hh,uX,_⟩
 ·omega
 ·cases hv;exact uX
theorem NA{w:AI}{B:Nat}{A:Option acn}{n c:Nat}{l:List Tl3}(h:eD w B (.slice A n c) l):l.length<=c/\c<=abi:=by
 obtain⟨A',c',hv,-,h3⟩:=bg h;injection hv with e1 e2 e3;subst e1 e2 e3;exact⟨Nz h,h3⟩
theorem E7{w:AI}{B:Nat}{A:Option acn}{n c:Nat}{l:List Tl3}(h:eD w B (.slice A n c) l)(hl:l.length<=1000)(cZ:∀r∈l,r.name.size<=1000000/\r.key.size<=1000000)(x:Tl3):
  aag prog 84 #[.slice A n c,.agg #[.string x.name,.string x.key,.string x.val]] w (so (Tl3.put x l) w):=by
 obtain⟨i0,hi,ef,dK,dY⟩:=info_parts Bm;obtain⟨xn,xk,xv⟩:=x;simp only;have HD:=sh (uo (w:=w.alloc (.cells #[.string xn,.string xk,.string xv] 143)) (h.below ((IN _ w).alloc (AS _) _)) (by omega) xn xk);obtain⟨d,hd⟩:∃d,d=Tl3.del xn xk l:=⟨_,rfl⟩;have F4:d.length<=1000:=by rw[hd];exact abE (Tl3.PX _ _ _) hl
 have hds:∀r∈d,r.name.size<=1000000/\r.key.size<=1000000:=fun r hr=>by rw[hd]at hr;exact cZ r (List.mem_filter.1 hr).1
 have HDS:=sh hds;have WZ:=sh (show Tl3.put ⟨xn,xk,xv⟩ l=d.takeWhile (fun r=>Tl3.less r ⟨xn,xk,xv⟩)++(⟨xn,xk,xv⟩::d.dropWhile (fun r=>Tl3.less r ⟨xn,xk,xv⟩)) from by rw[hd];rfl);rw[<-hd]at HD;clear h hl cZ hd hds;go_enter func84,ntmps84
 go_wp2_with fail
 refine HD.out.mono ?_;rintro e w1 ⟨ar,g1,c1,rfl,jP⟩;obtain⟨A1,UT⟩:∃A1:Option acn,A1=some ⟨g1,0,none⟩:=⟨_,rfl⟩;rw[<-UT]at jP |-;have xK:=sh UT;clear UT;have O7:=af (Bk.new w 143 #[.string xn,.string xk,.string xv]) ar;have vi:No w.heap.size w w1:=((IN _ w).alloc (AS _) (.cells #[.string xn,.string xk,.string xv] 143)).trans (ar.mono (by simp));obtain⟨ahP,SC⟩:=NA jP;have dC:c1<=9223372036854775807:=by unfold abi at SC;omega
 have HX1:=sh O7;have bh:=sh vi;have iN:=sh jP;have fP:=sh (show Rg w1 (.slice (some ⟨w1.heap.size,0,none⟩) 0 0) (d.take 0) (w1.alloc (.cells #[] 143)) from ⟨adD w1 #[] 0 (AS _) (by unfold abi;omega) rfl,(IN _ w1).alloc (AS _) _⟩);clear ar jP O7 vi SC
 go_upto_block 0 with fail
 go_cut [5,6] (fun ov iv wx=>∃(j:Nat) (A':Option acn) (c':Nat),iv= .int .i64 j/\j<=d.length/\ov= .slice A' j c'/\Hid (Rg w1 (.slice A' j c') (d.take j) wx/\(∀r∈d.take j,Tl3.less r ⟨xn,xk,xv⟩=true)/\∀hh:j<d.length,Tl3.less d[j] ⟨xn,xk,xv⟩=false))
 case first=>
  go_wp2_with fail
  go_loopw [5,6] (fun ov iv wr=>∃(j:Nat) (A':Option acn) (c':Nat),iv= .int .i64 j/\j<=d.length/\ov= .slice A' j c'/\Hid (Rg w1 (.slice A' j c') (d.take j) wr/\∀r∈d.take j,Tl3.less r ⟨xn,xk,xv⟩=true)) (fun _ iv _=>d.length-(intOf iv).toNat)
  case atStart=>exact⟨0,_,_,rfl,abc _,rfl,sh ⟨fP.out,by simp⟩⟩
  case round=>
   obtain⟨j,A',c',rfl,hj,rfl,HR⟩:=hrel;by_cases aI:j<d.length
   ·have z1: decide ((j:Int)<(d.length:Int))=true:=decide_eq_true (by omega)
    obtain⟨g,UT,lg,q0,q1,q2⟩:=(iN.out.below HR.out.1.below).at j aI;subst UT;obtain⟨y,hy⟩:∃y,y=d[j]:=⟨_,rfl⟩;have hys:=HDS.out d[j] (abw aI);rw[<-hy]at q0 q1 q2 hys;have ey:d.take (j+1)=d.take j++[y]:=by rw[hy];exact aaT aI
    have HY:=sh hy;obtain⟨nm,ky,vl⟩:=y;simp only at q0 q1 q2 hys;obtain⟨q,hq⟩:∃q,q=Tl3.less ⟨nm,ky,vl⟩ ⟨xn,xk,xv⟩:=⟨_,rfl⟩;have HLS:=sh fun(W:AI)=>(show aag prog 144 #[.agg #[.string nm,.string ky,.string vl],.agg #[.string xn,.string xk,.string xv]] W (fun e w'=>e= .returned (.bool q)/\No W.heap.size W w') from by rw[hq];exact Cc ⟨nm,ky,vl⟩ ⟨xn,xk,xv⟩ W hys.1 hys.2);have MQ:=af HX1.out HR.out.1.below;have CK:=sh ey;have HQ:=sh hq;have MP:=MQ.lt;have bH:=sh (show ∀W,No wr.heap.size wr W->W.cell? ⟨g,j*3,none⟩=some (.string nm)/\W.cell? ⟨g,j*3+1,none⟩=some (.string ky)/\W.cell? ⟨g,j*3+2,none⟩=some (.string vl)/\W.cell? ⟨w.heap.size,0,none⟩=some (.string xn)/\W.cell? ⟨w.heap.size,1,none⟩=some (.string xk)/\W.cell? ⟨w.heap.size,2,none⟩=some (.string xv) from fun W hW=>⟨(hW.cell (p:=⟨g,j*3,none⟩) lg).trans q0,(hW.cell (p:=⟨g,j*3+1,none⟩) lg).trans q1,(hW.cell (p:=⟨g,j*3+2,none⟩) lg).trans q2,(af MQ hW).cell 0,(af MQ hW).cell 1,(af MQ hW).cell 2⟩);have XM:=sh ((IN wr.heap.size wr).drew);clear ey hy hq hys MQ fP q0 q1 q2;go_wp2_with fail
    go_region_held3 (fun W=>W.cell? ⟨g,j*3,none⟩=some (.string nm)/\W.cell? ⟨g,j*3+1,none⟩=some (.string ky)/\W.cell? ⟨g,j*3+2,none⟩=some (.string vl)/\W.cell? ⟨w.heap.size,0,none⟩=some (.string xn)/\W.cell? ⟨w.heap.size,1,none⟩=some (.string xk)/\W.cell? ⟨w.heap.size,2,none⟩=some (.string xv)) (first|(with_reducible exact bH.out _ XM.out)|(with_reducible exact bH.out _ bO.out)) (first
     | (go_at_call 144;(with_reducible refine(HLS.out _).mono ?_);rintro e w2 ⟨rfl,az⟩;have bO:=sh (XM.out.trans az);clear az)
     | fail)
    all_goals
     have gM:=sh (show Rg w1 (.slice A' j c') (d.take j) w2/\∀r∈d.take j,Tl3.less r ⟨xn,xk,xv⟩=true from ⟨⟨HR.out.1.own.below bO.out,HR.out.1.below.trans (bO.out.mono HR.out.1.below.size)⟩,HR.out.2⟩);obtain⟨y0,y1,y2,-⟩:=bH.out _ bO.out;have lg2:g<w2.heap.size:=Nat.lt_of_lt_of_le lg bO.out.size;have Me:(d.take j).length=j:=by rw[abv];omega
     have XW:=sh Me;clear Me;cases q with
     | true=>
      have OH:=sh (show ∀r∈d.take (j+1),Tl3.less r ⟨xn,xk,xv⟩=true from fun r hr=>by
       rw[CK.out]at hr;rcases List.mem_append.1 hr with hr|hr
       ·exact HR.out.2 r hr
       ·rw[By]at hr
        rw[hr];exact HQ.out.symm)
      go_wp2_with (first
       | (at_builtin;refine aD _ rfl (.tmp 26) (.tmp 31) 31 rfl w1.heap.size 143 i0 _ 3 48 underlying31 hi ef dK dY rfl (by omega) (.slice A' j c') j (cK (d.take j)) rfl (gM.out.1.own.bJ XW.out.symm _) (some ⟨w2.heap.size,0,none⟩) 1 1 [.string nm,.string ky,.string vl] rfl rfl (fun hh=>by cases hh) (fun ad eo=>by
         injection eo with eo;subst eo;exact abV (cs:= #[.string nm,.string ky,.string vl]) (acb w2 _)) (by simp[acA]) (by unfold abi;omega) (by omega) (by have:=gM.out.1.below.size;simp;omega) ?_;intro A2 c2 w3 aw aF;have dN:=sh (gM.out.1.next XW.out.symm CK.out aw aF);clear aw aF)
       | fail)
      go_roundw
      case rel=>exact⟨j+1,A2,c2,by go_num,by omega,rfl,sh ⟨dN.out.2,OH.out⟩⟩
      case measure=>simp[intOf];omega
     | false=>
      have HE:=sh (show ∃(j':Nat) (XG:Option acn) (Y0:Nat),(acK .i64 (j:Int))= .int .i64 j'/\j'<=d.length/\acf A' j c'= .slice XG j' Y0/\Hid (Rg w1 (.slice XG j' Y0) (d.take j') w2/\(∀r∈d.take j',Tl3.less r ⟨xn,xk,xv⟩=true)/\∀hh:j'<d.length,Tl3.less d[j'] ⟨xn,xk,xv⟩=false) from
       ⟨j,A',c',rfl,hj,rfl,sh ⟨gM.out.1,gM.out.2,fun hh=>by rw[<-HY.out];exact HQ.out.symm⟩⟩)
      go_wp2_with fail
      go_meet
      exact HE.out
   ·have z1:decide ((j:Int)<(d.length:Int))=false:=decide_eq_false (by omega)
    have HE:=sh (show ∀nq,∃(j':Nat) (XG:Option acn) (Y0:Nat),(acK .i64 (j:Int))= .int .i64 j'/\j'<=d.length/\acf A' j c'= .slice XG j' Y0/\Hid (Rg w1 (.slice XG j' Y0) (d.take j') (wr.drewN nq)/\(∀r∈d.take j',Tl3.less r ⟨xn,xk,xv⟩=true)/\∀hh:j'<d.length,Tl3.less d[j'] ⟨xn,xk,xv⟩=false) from
     fun nq=>⟨j,A',c',rfl,hj,rfl,sh ⟨⟨HR.out.1.own.below (below_drewN (IN _ _) _),below_drewN HR.out.1.below _⟩,HR.out.2,fun hh=>absurd hh aI⟩⟩)
    clear HR fP;go_wp2_with fail
    go_quiet (fail)
    go_wp2_with fail
    go_meet
    exact HE.out _
 case rest=>
  obtain⟨j,A',c',rfl,hj,rfl,HR⟩:=hcut;have MQ:=af HX1.out HR.out.1.below;have x0:=MQ.cell 0;have x1:=MQ.cell 1;have x2:=MQ.cell 2;have lx:=MQ.lt;have XW:=sh (show (d.take j).length=j by rw[abv];omega);have YN:=sh (show Tl3.put ⟨xn,xk,xv⟩ l=d.take j++[⟨xn,xk,xv⟩]++d.drop j from by
   obtain⟨s1,s2⟩:=Tl3.uv (p:=fun r=>Tl3.less r ⟨xn,xk,xv⟩) (d.take j) (d.drop j) HR.out.2.1 (fun z t hz=>by
    have Me:j<d.length:=by
     by_cases h9:j<d.length
     ·exact h9
     ·rw[acF (by omega)]at hz;cases hz
    rw[List.drop_eq_getElem_cons Me]at hz;injection hz with qq Bl;rw[<-qq];exact HR.out.2.2 Me)
   rw[abm]at s1 s2;rw[WZ.out,s1,s2];simp)
  have y1:(j:Int)<=(c1:Int):=by omega
  have y2:(0:Int)<=(j:Int):=by omega
  have y5:(j:Int)<=(d.length:Int):=by omega
  have y6:(d.length:Int)<=(c1:Int):=by omega
  have oc:=sh (show d.take j++[⟨xn,xk,xv⟩]=d.take j++[⟨xn,xk,xv⟩] from rfl);clear MQ fP;obtain rfl:=xK.out;have HDR:=sh (show ∀(W:AI),eD W (w.alloc (.cells #[.string xn,.string xk,.string xv] 143)).heap.size (.slice (some ⟨g1,0,none⟩) d.length c1) d->∀ad,some (⟨g1,j*3,none⟩:acn)=some ad->∀jj u,(cK (d.drop j))[jj]? =some u->W.cell? (ad.add jj)=some u from fun W hW ad eo jj u hu=>by
   injection eo with eo;rw[<-eo];exact hW.parts j hj g1 rfl jj u hu)
  have KD:=sh (show ∀(W:AI),d.length<=j->∀(ad a0:acn),some a0=some ad->∀jj u,(cK (d.drop j))[jj]? =some u->W.cell? (ad.add jj)=some u from fun W he ad a0 eo jj u hu=>by
   rw[acF he]at hu;simp[cK]at hu)
  have Vu:(j=c1/\d.length=j)\/(j≠c1):=by omega
  have PD:=sh HR.out.1.below;have rL:=sh (show ∀(m:Nat) (A3:Option acn) (c3:Nat) (w3:AI) (g4 c4:Nat) (w4:AI),j+m=d.length->Rg w1 (.slice A3 (j+1) c3) (d.take j++[⟨xn,xk,xv⟩]) w3->w4.ownsRow w1.heap.size 143 3 (.slice (some ⟨g4,0,none⟩) (j+1+m) c4) (j+1+m) (cK (d.take j++[⟨xn,xk,xv⟩])++cK (d.drop j))->w3.grownBy w4 (acf A3 (j+1) c3).ownBlock->so (Tl3.put ⟨xn,xk,xv⟩ l) w (.returned (.slice (some ⟨g4,0,none⟩) (j+1+m) c4)) w4 from fun m A3 c3 w3 g4 c4 w4 hm h3 h4 hg=>by
   have QA:(Tl3.put ⟨xn,xk,xv⟩ l).length=j+1+m:=by rw[YN.out];simp;omega
   refine⟨bh.out.trans ((((ah.ae h3.below []).grown hg (fun g' uT=> .inr (abr h3.own g' uT).1)).below (AS _) (by simp)).mono bh.out.size),g4,c4,by rw[QA],?_⟩;unfold eD;rw[QA,YN.out,qd];exact l6 h4 bh.out.size)
  rcases Vu with⟨rfl,hdj⟩|Vu;all_goals
   go_wp2_with (first
    | (at_builtin;refine aD _ rfl (.tmp 35) (.tmp 37) 31 rfl w1.heap.size 143 i0 _ 3 48 underlying31 hi ef dK dY rfl (by omega) (.slice A' j c') j (cK (d.take j)) rfl (HR.out.1.own.bJ XW.out.symm _) (some ⟨wc.heap.size,0,none⟩) 1 1 [.string xn,.string xk,.string xv] rfl rfl (fun hh=>by cases hh) (fun ad eo=>by
       injection eo with eo;subst eo;exact abV (cs:= #[.string xn,.string xk,.string xv]) (acb wc _)) (by simp[acA]) (by unfold abi;omega) (by omega) (by have:=PD.out.size;simp;omega) ?_;intro A3 c3 w3 aw aF;have dN:=sh (HR.out.1.next XW.out.symm (x:=⟨xn,xk,xv⟩) rfl aw aF);clear aw aF)
    | (at_builtin;refine aD _ rfl (.tmp 39) (.tmp 42) 31 rfl w1.heap.size 143 i0 _ 3 48 underlying31 hi ef dK dY rfl (by omega) (.slice A3 (j+1) c3) (j+1) (cK (d.take j++[⟨xn,xk,xv⟩])) rfl (dN.out.2.own.NC dN.out.1) _ (d.length-j) _ (cK (d.drop j)) rfl (by rw[mD,abS]<;>omega) (fun hh=>by cases hh) (HDR.out w3 (iN.out.below dN.out.2.below)) (th _) (by unfold abi;omega) (by omega) (by have:=dN.out.2.below.size;omega) ?_;intro A4 c4 w4 bM cd;obtain⟨g4,rfl⟩:=cO bM (by omega);have WO:=sh (rL.out (d.length-j) A3 c3 w3 g4 c4 w4 (by omega) dN.out.2 bM cd);clear bM cd)
    | (at_builtin;refine aD _ rfl (.tmp 39) (.tmp 42) 31 rfl w1.heap.size 143 i0 _ 3 48 underlying31 hi ef dK dY rfl (by omega) (.slice A3 (j+1) c3) (j+1) (cK (d.take j++[⟨xn,xk,xv⟩])) rfl (dN.out.2.own.NC dN.out.1) _ (0) _ (cK (d.drop j)) rfl (by rw[mD,abS]<;>omega) (fun hh=>by cases hh) (fun ad eo=>KD.out w3 (by omega) ad _ eo) (th _) (by unfold abi;omega) (by omega) (by have:=dN.out.2.below.size;omega) ?_;intro A4 c4 w4 bM cd;obtain⟨g4,rfl⟩:=cO bM (by omega);have WO:=sh (rL.out (0) A3 c3 w3 g4 c4 w4 (by omega) dN.out.2 bM cd);clear bM cd)
    | fail)
   go_ret
   exact WO.out
end Go.Proofs.YtjbcbnemdhbhbaaGreatDoor
