import Derived.Test.YtjbcbnemdhbhbaaGreatDoorA26
import Derived.Deep.RegionHeld3
set_option maxRecDepth 100000
set_option linter.unusedVariables false
set_option linter.unusedSimpArgs false
set_option maxHeartbeats 40000000
open Go renaming Calls→aaf,Value→No,World→AI
open Go.IntWalk renaming i64_in→acq
open Go.Lib renaming hid→sh
open Go.RowKit renaming Below→IT
open Go.RowKit.Below renaming refl→BY
open Go.Value renaming ownBlock→aaT
open Go.World.ownsRow renaming cells→afI,frozenAt→adR,stored→aec
open List renaming append_assoc→aaa,getElem?_eq_getElem→aaG,getElem?_eq_none→acB,getElem?_eq_some_iff→abB,getElem_mem→abE,length→agb,length_append→AT,length_map→IS,length_pos_iff→acy,length_set→aen,length_take→abx,map_append→abI,mem_cons→OF,mem_cons_of_mem→abW,mem_iff_getElem→adp,mem_map→abK,mem_singleton→IN,take_append_drop→abm
open Nat renaming le_refl→AS,le_trans→abw,lt_of_lt_of_le→aal,zero_le→abi
open Option renaming mem_toList→abG
open Prod renaming fst→adt
namespace Go.Proofs.YtjbcbnemdhbhbaaGreatDoor
open Go.Proofs.Tryz
open Go.RowKit
theorem Tr.On.step{σ :ag}{d no:Nat}{L:List En}{i:Nat}{dE:List Lv}(h:Tr.On σ d no L i dE):∃(x:Lv) (rest:List Lv),dE=x::rest/\ σ no=some ⟨if x.leaf then 1 else 2,Nd.str x.leaf x.cells⟩/\Nd.right x.leaf x.cells=true/\Nd.sum x.leaf x.cells<=488/\x.idx<x.cells.length/\
  ((x.leaf=true/\rest=[])\/(x.leaf=false/\∃(d':Nat) (c:Ce) (L':List En) (i':Nat),x.cells[x.idx]? =some c/\Tr.On σ d' c.child L' i' rest)):=by
 cases d with
 | zero=>
  obtain⟨h1,h2,rfl⟩:=h;exact⟨_,_,rfl,h1.zr,h1.right,h1.sum,by rw[IS];exact h2,.inl ⟨rfl,rfl⟩⟩
 | succ d=>
  obtain⟨ks,j,i',rest,k,h1,rfl,h3,h4,rfl,rfl⟩:=h;exact⟨_,_,rfl,h1.zr,h1.right,h1.sum,by rw[IS];exact(abB.1 h3).1,.inr ⟨rfl,d,k.cell,k.L,i',by rw[List.getElem?_map,h3];rfl,h4⟩⟩
def vA (w:AI) (c:Nat):Nat:=match w.cell? ⟨c,2,none⟩with|some (.slice _ n _)=>n|_=>0
theorem Rf:(prog.info? 283).map (fun i=>(i.zero,i.size,i.bytes))=some (some (.agg #[.bool false,.slice none 0 0,.int .i64 0]),3,40):=by kernel_rfl
theorem kY.push{p:ay}(hp:Reads p){S:List Nat}{σ :ag}{c root:Nat}{R:List Nat}{w wa w3:AI}{U:List Nat}{v:No}{ls:List (Lv×Rw)}(h:kY p S σ c root R w U v ls)(x:Lv)(q:Rw)(hr:aW w (fun b=>b∉U/\b∉R) q x.cells)(ha:ah [] w wa)(hg:wa.grownBy w3 v.ownBlock){b cap H:Nat}
  (ho:w3.ownsRow 0 283 3 (.slice (some ⟨b,0,none⟩) (ls.length+1) cap) (ls.length+1) (eN ls++[.bool x.leaf,.slice q.A q.n q.c,.int .i64 x.idx])) (cG:v.ownBlock=some b\/b=H) (hH:w.heap.size<=H) (aH:b<w3.heap.size):
  kY p S σ c root R (w3.setCell ⟨c,2,none⟩ (.slice (some ⟨b,0,none⟩) (ls.length+1) cap)) (b::U) (.slice (some ⟨b,0,none⟩) (ls.length+1) cap) (ls++[(x,q)])/\ah U w (w3.setCell ⟨c,2,none⟩ (.slice (some ⟨b,0,none⟩) (ls.length+1) cap))/\aj w U (b::U):=by
 have GG:ah U w w3:=(ha.mono (by simp)).grown hg (fun g hg=> .inl (h.jH g hg));have Ku:Bk w3 c 215 #[.iface p.T p.v,.int .i64 root,v]:=by
  have hn:v.ownBlock≠some c:=cz h.row h.top (by decide);have GH:ah v.ownBlock.toList w w3:=(ha.mono (by simp)).grown hg (fun g hg=> .inl (by rw[abG];exact hg));exact GH.bk h.top (fun hh=>hn (abG.1 hh))
 have hbc:b≠c:=fun e=>cz ho Ku (by decide) (by rw[e];rfl);have QZ:ah U w (w3.setCell ⟨c,2,none⟩ (.slice (some ⟨b,0,none⟩) (ls.length+1) cap)):=GG.setCell (.inl h.mem) _;have hf:aj w U (b::U):=fun y hy=>by
  rcases OF.1 hy with rfl|hy
  ·rcases cG with h1|h1
   ·exact .inl (h.jH _ h1)
   ·exact .inr (by omega)
  ·exact .inl hy
 refine⟨h.renew hp QZ (fun y hy=>abW _ hy) hf (fun y hy=> ?_) (Ku.put 2 _) ?_ (fun g hg=> ?_) (fun y hy=> ?_),QZ,hf⟩
 ·rcases OF.1 hy with rfl|hy
  ·simpa using aH
  ·exact aal (h.lt y hy) QZ.size
 ·rw[xz,IB,AT]
  exact((ah.refl [c] w3).setCell (p:=⟨c,2,none⟩) (.inl (by simp)) _).own ho (fun g hg hm=>by
   have e:b=g:=by simpa[aaT]using hg
   rw[IN]at hm;omega)
 ·have e:b=g:=by simpa[aaT]using hg
  simp[e]
 ·rcases List.mem_append.1 hy with hy|hy
  ·exact .inl ⟨y,hy,rfl,rfl⟩
  ·rw[IN]at hy
   subst hy;refine .inr (hr.keep QZ.size (fun z hz aH=>QZ.block z aH hz.1) (fun z hz aH=>⟨fun hm=> ?_,hz.2⟩));rcases hf z hm with h1|h1
   ·exact hz.1 h1
   ·omega
def oD (p:ay) (S:List Nat) (σ :ag) (c root:Nat) (R:List Nat) (w:AI) (U:List Nat) (dE:List Lv) (w':AI):Prop:=
 ∃(U':List Nat) (v:No) (ls:List (Lv×Rw)),ls.map adt=dE/\kY p S σ c root R w' U' v ls/\ah U w w'/\aj w U U'/\∀b∈U,b∈U'
theorem Gi{p:ay}(hp:Reads p){S:List Nat}{σ :ag}{c root:Nat}{R:List Nat}{w:AI}{U:List Nat}{v:No}{ls:List (Lv×Rw)}(h:kY p S σ c root R w U v ls){fc:Nat}{dx:Array No}{X:List Nat}{ch:List Ce->Nat}(lR:PF fc dx X w ch)(hX:∀b∈X,b<w.heap.size/\b∉U)
  {d no:Nat} {L:List En} {i:Nat} {dE:List Lv} (hd:Tr.Dn σ ch d no L i dE) (hl:ls.length+dE.length<=10):
  aaf prog 188 #[.pointer (some ⟨c,0,none⟩),.int .i64 no,.func (.func fc) #[] dx] w (fun e w'=>e= .returned (.tuple #[.bool true,.int .i64 0])/\oD p S σ c root R w U (ls.map adt++dE) w'):=by
 have he:=lR.enter;have Hq:=sh lR.DX;have HC:=sh h;have HX:=sh hX;have HD:=sh hd;obtain⟨inf,hi,ez,dP,eh⟩:=info_parts Rf;clear h hX hd lR;go_enter func188,ntmps188
 go_wp2_with fail
 go_loopw [1] (fun n wr=>∃(no':Nat) (dn:List (Lv×Rw)) (U':List Nat) (v':No) (d':Nat) (L':List En) (i':Nat) (rest:List Lv),n= .int .i64 no'/\kY p S σ c root R wr U' v' (ls++dn)/\dE=dn.map adt++rest/\Tr.On σ d' no' L' i' rest/\ah U w wr/\aj w U U'/\∀b∈U,b∈U') (fun _ wr=>20-vA wr c)
 case atStart=>exact⟨no,[],U,v,d,L,i,dE,rfl,by rw[List.append_nil];exact HC.out,rfl,HD.out.1,ah.refl _ _,aj.refl _ _,fun _ h=>h⟩
 case round=>
  obtain⟨no',dn,U',v',d',L',i',rest,rfl,hc,hw,ux,bB,bU,oq⟩:=hrel;obtain⟨x,py,rfl,uy,I9,oC,Vv,oo⟩:=ux.step;have hlen:(ls++dn).length<10:=by
   have:dE.length=dn.length+(py.length+1):=by rw[hw];simp
   rw[AT];omega
  have hxi:x.idx=ch x.cells:=HD.out.2 x (by rw[hw];simp);have bM:x.cells≠[]:=by intro e;rw[e]at Vv;simp at Vv
  have ni:x.cells.length<=300:=by have:=Nd.ey x.leaf x.cells;omega
  have SX:Kept X w wr:=fun b hb=>⟨aal (HX.out b hb).1 bB.size,bB.block b (HX.out b hb).1 (HX.out b hb).2⟩;obtain⟨lz,hlz⟩:∃lz,lz=ls++dn:=⟨_,rfl⟩;rw[<-hlz]at hc hlen;have Dj:vA wr c=lz.length:=by
   obtain⟨A,cc,rfl,-,-⟩:=j8 hc.row;unfold vA;rw[hc.top.cell 2];rfl
  have vM:=sh (LD hp hc hlen no' x.leaf x.cells uy I9 oC bM);have HWL:=sh Dj;have HLZ:=sh hlz;clear hlz;have HON:=sh ux;have XQ:=sh hc;have HW:=sh hw;have nA:=sh oo;have sG:=sh (show ah U w wr/\aj w U U'/\∀b∈U,b∈U' from ⟨bB,bU,oq⟩);have HKX:=sh SX;clear hc hw ux bB bU oq uy I9 oC oo SX Dj;go_wp2_with fail
  refine vM.out.mono ?_;rintro e w1 ⟨ar,q,rfl,GK⟩;obtain⟨qA,qn,qc⟩:=q;have Pr:qn=x.cells.length:=GK.1;subst Pr;have bh:=sh ar;have YE:=sh GK;have QM:=XQ.out.below hp ar;obtain⟨A,cc,hv,-,Bj⟩:=j8 QM.row;rw[hv]at QM;have vK:=sh QM;have XO:=sh fun(W:AI) (hb:IT w1.heap.size w1 W)=>Hq.out W (fun b sU=>⟨aal (HKX.out b sU).1 (abw ar.size hb.size),((hb.block b (aal (HKX.out b sU).1 ar.size)).trans (ar.block b (HKX.out b sU).1)).trans (HKX.out b sU).2⟩) x.leaf ⟨qA,x.cells.length,qc⟩ _ x.cells (GK.below hb) bM ni;rw[<-hxi]at XO;clear hxi;clear ar GK QM;go_wp2_with fail
  refine(XO.out _ ((BY _ _).alloc (AS _) _)).mono ?_;rintro e w2 ⟨rfl,aC⟩;obtain⟨r0,r1,r2,l2,jY,bR⟩:=rO aC;have gP:=sh jY;have wX:=sh bR;have g2:=bR.frozen 2;have Mf:=vK.out.below hp jY;have c2:=Mf.top.cell 2;have f2:=Mf.top.frozen 2;have lc:=Mf.top.lt;have vL:=sh Mf;clear aC jY bR Mf;go_wp2_with fail
  have cV:IT w1.heap.size w1 (w2.setCell ⟨w1.heap.size,2,none⟩ (.int .i64 x.idx)):=((ah.af gP.out []).setCell (p:=⟨w1.heap.size,2,none⟩) (.inr (AS _)) _).below (AS _) (by simp);have rf:Bk (w2.setCell ⟨w1.heap.size,2,none⟩ (.int .i64 x.idx)) w1.heap.size 283 #[.bool x.leaf,.slice qA x.cells.length qc,.int .i64 x.idx]:=wX.out.put 2 _;clear r0 r1 r2 l2 g2 c2 f2 lc;generalize w2.setCell ⟨w1.heap.size,2,none⟩ (.int .i64 x.idx)=w5 at cV rf |-;have Eh:=vK.out.below hp cV;have uB:aW w5 (fun b=>b∉U'/\b∉R) ⟨qA,x.cells.length,qc⟩ x.cells:=YE.out.keep cV.size (fun b _ aH=>cV.block b aH) (fun b hb aH=>⟨fun hm=>by have:=XQ.out.lt b hm;omega,fun hm=>by have:=XQ.out.RO b hm;omega⟩);have Tg:∀g,aaT (.slice A lz.length cc)=some g->g≠c/\g≠w1.heap.size:=fun g hg=>⟨fun e=>cz Eh.row Eh.top (by decide) (e ▸ hg),fun e=>by have:=vK.out.lt g (vK.out.jH g hg);omega⟩;have bD:=sh (show ∀W,ah (aaT (.slice A lz.length cc)).toList w5 W->W.cell? ⟨c,2,none⟩=some (.slice A lz.length cc)/\W.cell? ⟨w1.heap.size,0,none⟩=some (.bool x.leaf)/\W.cell? ⟨w1.heap.size,1,none⟩=some (.slice qA x.cells.length qc)/\W.cell? ⟨w1.heap.size,2,none⟩=some (.int .i64 x.idx) from fun W hW=>by
   have b1:=hW.bk Eh.top (fun hm=>(Tg c (abG.1 hm)).1 rfl);have b2:=hW.bk rf (fun hm=>(Tg _ (abG.1 hm)).2 rfl);exact⟨b1.cell 2,b2.cell 0,b2.cell 1,b2.cell 2⟩)
  have XX:=sh (show ∀W W3,ah [] w5 W->W.grownBy W3 (aaT (.slice A lz.length cc))->ah (aaT (.slice A lz.length cc)).toList w5 W3 from fun W W3 h1 h2=>(h1.mono (by simp)).grown h2 (fun g hg=> .inl (by rw[abG];exact hg)));have HFZ:=sh (show ∀W,ah (aaT (.slice A lz.length cc)).toList w5 W->W.frozen? ⟨c,2,none⟩=false/\c<W.heap.size from fun W hW=>by
   have b1:=hW.bk Eh.top (fun hm=>(Tg c (abG.1 hm)).1 rfl);exact⟨b1.frozen 2,b1.lt⟩)
  have C6:=sh Eh;have sH:=sh rf;have WY:=sh Vv;have Yz:=sh uB;have ft:=sh Eh.row;have m5:=sh cV;have aie:lz.length<=10:=by omega
  have HI:=sh hi;have HZ0:=sh ez;have Kp:=sh dP;have C9:=sh eh;clear cV rf Eh uB Tg hi ez dP eh;obtain⟨a0,a1,a2,a3⟩:=bD.out w5 (ah.refl _ _);obtain⟨a4,a5⟩:=HFZ.out w5 (ah.refl _ _);have adi:=sh bD.out;clear adi;first
   | go_region_law ((refine step_append_lies _ (by rfl) _ _ 213 (by rfl) 0 283 inf (.agg #[.bool false,.slice none 0 0,.int .i64 0]) 3 40 underlying213 HI.out HZ0.out Kp.out C9.out (by rfl) (by omega) _ _ _ (by rfl) (ft.out.alloc _) _ 1 1 [.bool x.leaf,.slice qA x.cells.length qc,.int .i64 x.idx] (by rfl) (by rfl) (World.news_of_block (cs:= #[.bool x.leaf,.slice qA x.cells.length qc,.int .i64 x.idx]) (heap_alloc_new w5 _)) (D6 (x,⟨qA,x.cells.length,qc⟩)) (by omega) (by unfold maxLen;omega) (by omega) (abi _) (w5.heap.size+1) (by simp) ?_;intro b cap w3 ax aQ df uo;have GG:=sh (XX.out _ w3 (((ah.refl [] w5).alloc _).drew) aQ);have W9:=sh (C6.out.push hp x ⟨qA,x.cells.length,qc⟩ Yz.out (((ah.refl [] w5).alloc _).drew) aQ ax df (by omega) uo);obtain⟨z1,z2⟩:=HFZ.out _ GG.out;have z3:=(bD.out _ GG.out).1;  clear ax aQ df))
   | fail
  all_goals
   obtain⟨hc6,QZ,hf6⟩:=W9.out;have rh:=QZ.bk sH.out (fun hm=>by have:=vK.out.lt _ hm;omega);have d0:=rh.cell 0;have d1:=rh.cell 1;have d2:=rh.cell 2;have ld:=rh.lt;have Bw:ah U w (w3.setCell ⟨c,2,none⟩ (.slice (some ⟨b,0,none⟩) (lz.length+1) cap)):=sG.out.1.then (((ah.af bh.out U').trans (ah.af m5.out U')).trans QZ) sG.out.2.1;have jA:aj w U (b::U'):=sG.out.2.1.trans (hf6.mono (abw bh.out.size m5.out.size)) sG.out.1.size;have TB:∀y∈U,y∈b::U':=fun y hy=>abW _ (sG.out.2.2 y hy);have OS:=sh hc6;have W7:=sh (show ah U w (w3.setCell ⟨c,2,none⟩ (.slice (some ⟨b,0,none⟩) (lz.length+1) cap))/\aj w U (b::U')/\∀y∈U,y∈b::U' from ⟨Bw,jA,TB⟩);have HR6:=sh (hc6.cells (x,⟨qA,x.cells.length,qc⟩) (by simp)).at;have Bs:(lz++[(x,(⟨qA,x.cells.length,qc⟩:Rw))]).map adt=ls.map adt++(dn.map adt++[x]):=by rw[HLZ.out];simp
   have adq:=sh Bs;clear W9 hc6 QZ hf6 rh Bw jA TB Bs;rcases nA.out with⟨GA,GJ⟩|⟨GA,d2',ce,L2,i2,sg,aaP⟩
   ·rw[GA]at d0
    have HRS:=sh GJ;clear GA GJ;go_wp2_with fail
    go_ret2
    exact⟨rfl,_,_,_,by rw[adq.out,HW.out,HRS.out],OS.out,W7.out⟩
   ·rw[GA]at d0
    have HCE:=sh sg;have Yh:=sh aaP;clear GA sg aaP;obtain⟨b8,o8,Sw,-,-,-,-,-,q4⟩:=HR6.out x.idx WY.out;simp only at Sw;subst Sw;have lR:(x.cells[x.idx]'WY.out).child=ce.child:=by
     have h9:=HCE.out;rw[aaG WY.out]at h9;injection h9 with h9;rw[h9]
    rw[lR]at q4;have y1:(x.idx:Int)<(x.cells.length:Int):=by have:=WY.out;omega
    have y2:(0:Int)<=(x.idx:Int):=by omega
    have abp:vA (w3.setCell ⟨c,2,none⟩ (.slice (some ⟨b,0,none⟩) (lz.length+1) cap)) c=lz.length+1:=by
     unfold vA;rw[OS.out.top.cell 2];rfl
    have ad8:=sh abp;have wZ:=sh hlen;clear lR abp;go_wp2_with fail
    go_roundw
    case rel=>
     first
      | exact⟨ce.child,dn++[(x,⟨some ⟨b8,o8,none⟩,x.cells.length,qc⟩)],_,_,d2',L2,i2,py,rfl,by rw[<-aaa,<-HLZ.out];exact OS.out,by rw[HW.out];simp,Yh.out,W7.out⟩
      | ((repeat apply Exists.intro);exact⟨⟨ce.child,dn++[(x,⟨some ⟨b8,o8,none⟩,x.cells.length,qc⟩)],_,_,d2',L2,i2,py,rfl,by rw[<-aaa,<-HLZ.out];exact OS.out,by rw[HW.out];simp,Yh.out,W7.out⟩,rfl⟩)
    case measure=>
     rw[ad8.out,HWL.out];have:=wZ.out;omega
def Place (σ :ag) (root:Nat) (L:List En):Option Nat->List Lv->Prop
 | none,dE=>dE=[]
 | some i,dE=>∃d,d<=8/\Tr.On σ d root L i dE
theorem Place.len{σ :ag}{root:Nat}{L:List En}{o:Option Nat}{dE:List Lv}(h:Place σ root L o dE):dE.length<=9:=by
 cases o with
 | none=>rw[show dE=[] from h];simp
 | some i=>obtain⟨d,h1,h2⟩:=h;rw[h2.len];omega
def gE (p:ay) (S:List Nat) (σ :ag) (c root:Nat) (R:List Nat) (L:List En) (w:AI) (U:List Nat) (o:Option Nat):Prop:=
 ∃(v:No) (ls:List (Lv×Rw)),kY p S σ c root R w U v ls/\Place σ root L o (ls.map adt)
def fB (p:ay) (S:List Nat) (σ :ag) (c root:Nat) (R:List Nat) (L:List En) (w:AI) (U:List Nat) (o:Option Nat) (w':AI):Prop:=
 ∃U',gE p S σ c root R L w' U' o/\ah U w w'/\aj w U U'/\∀b∈U,b∈U'
theorem oD.post{p:ay}{S:List Nat}{σ :ag}{c root:Nat}{R:List Nat}{L:List En}{w w':AI}{U:List Nat}{o:Option Nat}{dE:List Lv}(h:oD p S σ c root R w U dE w')(ho:Place σ root L o dE):fB p S σ c root R L w U o w':=by
 obtain⟨U',v,ls,e,h1,h2,h3,h4⟩:=h;exact⟨U',⟨v,ls,h1,by rw[e];exact ho⟩,h2,h3,h4⟩
theorem oD.from{p:ay}{S:List Nat}{σ :ag}{c root:Nat}{R:List Nat}{w w1 w':AI}{U:List Nat}{dE:List Lv}(ho:ah U w w1)(h:oD p S σ c root R w1 U dE w'):oD p S σ c root R w U dE w':=by
 obtain⟨U',v,ls,e,h1,h2,h3,h4⟩:=h;exact⟨U',v,ls,e,h1,ho.trans h2,fun b hb=>(h3 b hb).imp id (fun h=>abw ho.size h),h4⟩
def Whole (σ :ag) (root:Nat) (L:List En):Prop:=(root=0/\L=[])\/∃d P,d<=8/\Tr.aD σ d root P L
theorem Tr.dt.whole{σ :ag}{root:Nat}{P:List Nat}{L:List En}(h:Tr.dt σ root P L)(hn:P.Nodup):Whole σ root L:=by
 rcases h with⟨rfl,rfl,rfl⟩|⟨d,h⟩
 ·exact .inl ⟨rfl,rfl⟩
 ·exact .inr ⟨d,P,h.low hn,h⟩
theorem Lw{p:ay}(hp:Reads p){S:List Nat}{σ :ag}{c root:Nat}{R:List Nat}{L:List En}{w:AI}{U:List Nat}{v:No}{ls:List (Lv×Rw)}(h:kY p S σ c root R w U v ls)(hL:Whole σ root L){fc:Nat}{dx:Array No}{X:List Nat}{ch:List Ce->Nat}(lR:∀W,Kept X w W->PF fc dx X W ch)(hX:∀b∈X,b<w.heap.size/\b∉U)(hc:∀l,l≠[]->ch l<l.length):
  aaf prog 137 #[.pointer (some ⟨c,0,none⟩),.func (.func fc) #[] dx] w (fun e w'=>(L=[]/\e= .returned (.tuple #[.bool false,.int .i64 0])/\fB p S σ c root R L w U none w')\/(∃d i dE,d<=8/\Tr.Dn σ ch d root L i dE/\e= .returned (.tuple #[.bool true,.int .i64 0])/\oD p S σ c root R w U dE w')):=by
 have t1:=h.top.cell 1;have t2:=h.top.cell 2;have f2:=h.top.frozen 2;have lc:=h.top.lt;have ho:ah U w (w.setCell ⟨c,2,none⟩ (.slice none 0 0)):=(ah.refl _ _).setCell (.inl h.mem) _;have vG:kY p S σ c root R (w.setCell ⟨c,2,none⟩ (.slice none 0 0)) U (.slice none 0 0) []:=h.renew hp ho (fun _ h=>h) (aj.refl _ _) (fun b hb=>aal (h.lt b hb) ho.size) (h.top.put 2 _) (World.ownsRow_nil _ _ _ _) (by intro g hg;cases hg) (by simp);have HO:=sh ho;have HC:=sh vG;rcases hL with⟨rfl,rfl⟩|⟨d,P,hd,aX⟩
 ·clear h ho vG lR hX hc
  go_enter func137,ntmps137
  go_wp2_with fail
  go_ret2
  exact .inl ⟨trivial,rfl,U,⟨_,[],HC.out,rfl⟩,HO.out,aj.refl _ _,fun _ h=>h⟩
 ·obtain⟨i,dE,kx⟩:=Tr.LO (ch:=ch) hc aX
  have gd:1<=root:=by obtain⟨_,_,_,g,_⟩:=aX;exact g
  have z1:((root:Int)==0)=false:=by rw[beq_eq_false_iff_ne];omega
  have z2:(root==0)=false:=by rw[beq_eq_false_iff_ne];omega
  have SX:Kept X w (w.setCell ⟨c,2,none⟩ (.slice none 0 0)):=fun b hb=>⟨aal (hX b hb).1 ho.size,ho.block b (hX b hb).1 (hX b hb).2⟩;have HD:=sh (Gi hp vG (lR _ SX) (fun b hb=>⟨aal (hX b hb).1 ho.size,(hX b hb).2⟩) kx (by rw[kx.1.len];simp;omega));have Ae:=sh kx;clear h ho vG lR hX hc aX kx SX;go_enter func137,ntmps137
  go_wp2_with fail
  refine HD.out.mono ?_;rintro e w1 ⟨rfl,GO⟩;have HT:=sh GO;clear GO;go_wp2_with fail
  go_ret2
  exact .inr ⟨d,i,dE,hd,Ae.out,rfl,oD.from HO.out (by simpa using HT.out)⟩
theorem tY{p:ay}(hp:Reads p){S:List Nat}{σ :ag}{c root:Nat}{R:List Nat}{L:List En}{w:AI}{U:List Nat}{o:Option Nat}(h:gE p S σ c root R L w U o)(hL:Whole σ root L):
  aaf prog 76 #[.pointer (some ⟨c,0,none⟩)] w (fun e w'=>e= .returned (.tuple #[.bool (decide (L≠[])),.int .i64 0])/\fB p S σ c root R L w U (if L=[]then none else some 0) w'):=by
 obtain⟨v,ls,h,-⟩:=h;have HB:=sh (Lw hp h hL (X:=[]) (fun W _=>Gt W) (by simp) (fun l hl=>acy.2 hl));clear h hL;go_enter func76,ntmps76
 go_wp2_with fail
 refine HB.out.mono ?_;rintro e w1 (⟨rfl,rfl,GO⟩|⟨d,i,dE,hd,kx,rfl,GO⟩)
 ·have HT:=sh GO
  clear GO;go_wp2_with fail
  go_ret2
  exact⟨rfl,HT.out⟩
 ·have hi:=Tr.Gh kx
  subst hi;have bM:L≠[]:=by have:=kx.1.lt;intro e;rw[e]at this;simp at this
  have HT:=sh (GO.post (o:=some 0) ⟨d,hd,kx.1⟩);have W6:=sh bM;clear GO kx bM;go_wp2_with fail
  go_ret2
  exact⟨rfl,HT.out⟩
def F7 (yO:Int) (x:Lv):Prop:=(x.idx:Int)+yO<0\/(x.cells.length:Int)<=(x.idx:Int)+yO
structure sK (σ :ag) (root:Nat) (L:List En) (yO:Int) (dE:List Lv) (o:Option Nat) (ch:List Ce->Nat):Prop where
 dir:yO=1\/yO= -1
 none:(∀x∈dE,F7 yO x)->o=none
 some:∀pre x post m,dE=pre++x::post->(∀y∈post,F7 yO y)->(x.idx:Int)+yO=((m:Nat):Int)->m<x.cells.length->
  (x.leaf=true/\post=[]/\Place σ root L o (pre++[⟨x.leaf,x.cells,m⟩]))\/(x.leaf=false/\∃(d':Nat) (c:Ce) (L':List En) (i2:Nat) (zH:List Lv),x.cells[m]? =Option.some c/\Tr.Dn σ ch d' c.child L' i2 zH/\pre.length+1+zH.length<=10/\Place σ root L o (pre++⟨x.leaf,x.cells,m⟩::zH))
theorem FE{σ :ag}{d root:Nat}{L:List En}{i:Nat}{dE:List Lv}(hd:d<=8)(h:Tr.On σ d root L i dE):sK σ root L 1 dE (if i+1<L.length then some (i+1)else none) (fun _=>0) where
 dir:= .inl rfl
 none:=fun ha=>by
  have:=h.at_end (fun x hx=>by rcases ha x hx with h1|h1<;>omega);rw[if_neg (by omega)]
 some:=fun pre x post m hw ha hm Et=>by
  subst hw;have e:m=x.idx+1:=by omega
  subst e;have ha2:∀y∈post,y.cells.length<=y.idx+1:=fun y hy=>by rcases ha y hy with h1|h1<;>omega
  rcases Tr.On.Su pre h ha2 Et with⟨g1,g2⟩|⟨g1,d',c,L',P',g2,g3,g4,g5⟩
  ·have hp:post=[]:=by
    have l1:=h.len;have l2:=g2.len;simp at l1 l2;exact List.eq_nil_of_length_eq_zero (by omega)
   rw[if_pos g2.lt,g1];exact .inl ⟨rfl,hp,d,hd,g2⟩
  ·obtain⟨i2,zH,kx⟩:=Tr.LO (ch:=fun _=>0) (fun l hl=>acy.2 hl) g3
   have e2:=Tr.Gh kx;subst e2;have ux:=g5 zH kx.1;rw[if_pos ux.lt,g1];exact .inr ⟨rfl,d',c,L',0,zH,g2,kx,by have:=ux.len;simp at this;omega,d,hd,ux⟩
theorem NU{w:AI}{B g n n' cap s:Nat}{e:TypeId}{xs ys:List No}(h:w.ownsRow B e s (.slice (some ⟨g,0,none⟩) n cap) n xs)(hn:n'<=n)(hy:ys=xs.take (n'*s)):w.ownsRow B e s (.slice (some ⟨g,0,none⟩) n' cap) n' ys:=by
 obtain⟨h1,h2⟩:=h;rcases h2 with⟨h0,_⟩|⟨g',DO,cur,hv,hg,hh,vI,yY,cZ,cW⟩
 ·cases h0
 ·cases hv
  have hm:n'*s<=n*s:=Nat.mul_le_mul_right _ hn;refine⟨by rw[hy,abx,h1];omega,.inr ⟨g,cap,cur,rfl,hg,hh,by omega,yY,cZ,?_⟩⟩;rw[hy,<-cW,List.take_take,Nat.min_eq_left hm]
theorem RB{w:AI}{B n c s:Nat}{A:Option Addr}{e:TypeId}{xs:List No}(h:w.ownsRow B e s (.slice A n c) n xs):n<=c:=by
 rcases h.2 with⟨h0,h1⟩|⟨g',DO,cur,hv,hg,hh,vI,_⟩
 ·omega
 ·cases hv;exact vI
theorem D7(ls:List (Lv×Rw))(n:Nat)(h:n<=ls.length):(eN ls).take (n*3)=eN (ls.take n):=by
 have e:ls=ls.take n++ls.drop n:=(abm n ls).symm;have hl:(eN (ls.take n)).length=n*3:=by rw[jR,abx];omega
 conv=>lhs;rw[e,xz]
 rw[<-hl,List.take_left]
theorem IC(ls:List (Lv×Rw))(j:Nat)(h:j<ls.length)(m:Nat):(eN ls).set (j*3+2) (.int .i64 m)=eN (ls.set j (⟨ls[j].1.leaf,ls[j].1.cells,m⟩,ls[j].2)):=by
 apply List.ext_getElem?;intro k;by_cases hk:k<ls.length*3
 ·have cO:k=(k/3)*3+k%3:=by omega
  have hd:k/3<ls.length:=by omega
  have hm:k%3<3:=by omega
  have e1:=iu ls (k/3) hd (k%3) hm;have e2:=iu (ls.set j (⟨ls[j].1.leaf,ls[j].1.cells,m⟩,ls[j].2)) (k/3) (by rw[aen];exact hd) (k%3) hm;rw[<-cO]at e1 e2;rw[e2,List.getElem?_set];by_cases hj:j*3+2=k
  ·have h1:k/3=j:=by omega
   have h2:k%3=2:=by omega
   rw[if_pos hj,if_pos (by rw[jR];omega)];simp[h1,h2,Rj]
  ·rw[if_neg hj,e1]
   by_cases Gx:j=k/3
   ·have h2:k%3=0\/k%3=1:=by omega
    subst Gx;rcases h2 with h2|h2<;>simp[h2,Rj]
   ·rw[List.getElem_set_ne Gx]
 ·rw[acB (by rw[aen,jR];omega),acB (by rw[jR,aen];omega)]
theorem kY.level{p:ay}{S:List Nat}{σ :ag}{c root:Nat}{R:List Nat}{w:AI}{U:List Nat}{g n cap:Nat}{ls:List (Lv×Rw)}(h:kY p S σ c root R w U (.slice (some ⟨g,0,none⟩) n cap) ls)(j:Nat)(hj:j<ls.length):
  w.cell? ⟨g,j*3,none⟩=some (.bool ls[j].1.leaf)/\w.cell? ⟨g,j*3+1,none⟩=some (.slice ls[j].2.A ls[j].2.n ls[j].2.c)/\w.cell? ⟨g,j*3+2,none⟩=some (.int .i64 ls[j].1.idx)/\w.frozen? ⟨g,j*3+2,none⟩=false/\n=ls.length/\g<w.heap.size/\g≠c:=by
 obtain⟨_,_,hv,-,-⟩:=j8 h.row;injection hv with e1 e2 e3;subst e2;have hc:=afI h.row (g:=g) rfl;have ha:∀k,((⟨g,0,none⟩:Addr).add k)=⟨g,k,none⟩:=fun k=>by rw[bJ,Nat.zero_add]
 have hg:∀k u,(eN ls)[k]? =some u->w.cell? ⟨g,k,none⟩=some u:=fun k u hu=>by rw[<-ha k];exact hc k u hu
 exact⟨hg _ _ (iu ls j hj 0 (by omega)),hg _ _ (iu ls j hj 1 (by omega)),hg _ _ (iu ls j hj 2 (by omega)),adR h.row _,rfl,h.lt g (h.jH g rfl),fun e=>cz h.row h.top (by decide) (by rw[e];rfl)⟩
theorem RX{p:ay}(hp:Reads p){S:List Nat}{σ :ag}{c root:Nat}{R:List Nat}{L:List En}{w:AI}{U:List Nat}{v:No}{ls:List (Lv×Rw)}{yO:Int}{o:Option Nat}{fc:Nat}{ch:List Ce->Nat}(h:kY p S σ c root R w U v ls)(hs:sK σ root L yO (ls.map adt) o ch)(Vv:∀x∈ls.map adt,x.idx<x.cells.length)(hl:ls.length<=9)(lR:∀W,PF fc #[] [] W ch):
  aaf prog 140 #[.pointer (some ⟨c,0,none⟩),.int .i64 yO,.func (.func fc) #[] #[]] w (fun e w'=>e= .returned (.tuple #[.bool o.isSome,.int .i64 0])/\fB p S σ c root R L w U o w'):=by
 obtain⟨A,cc,rfl,hA,Bj⟩:=j8 h.row;have t2:=h.top.cell 2;have f2:=h.top.frozen 2;have lc:=h.top.lt;have ZQ:=hs.dir;have HC:=sh h;have HS:=sh hs;have WY:=sh Vv;have Hq:=sh lR;have HA:=sh hA;have m6:=sh (LG hp h 0);clear h hs Vv lR hA;go_enter func140,ntmps140
 go_wp2_with fail
 go_loopw [8] (fun n wr=>wr=w/\∃(nn:Int) (j:Nat),n= .int .i64 nn/\nn=(j:Int)-1/\j<=ls.length/\∀k (hk:k<ls.length),j<=k->F7 yO ls[k].1) (fun n _=>(intOf n+1).toNat)
 case atStart=>exact⟨rfl,_,ls.length,rfl,rfl,AS _,fun k hk h=>by omega⟩
 case round=>
  obtain⟨rfl,nn,j,rfl,vI,hj,aX⟩:=hrel;cases j with
  | zero=>
   obtain rfl:nn= -1:=by omega
   have ho:o=none:=HS.out.none fun x hx=>by
    obtain⟨y,hy,rfl⟩:=abK.1 hx;obtain⟨k,hk,rfl⟩:=adp.1 hy;exact aX k hk (abi _)
   subst ho;clear aX vI hj ZQ;have y0:decide ((0:Int)<= -1)=false:=rfl;go_wp2_with fail
   refine m6.out.mono ?_;rintro e w1 ⟨rfl,rk,sV⟩;have HE:=sh (show fB p S σ c root R L wr U none w1 from ⟨U,⟨_,[],sV,rfl⟩,rk,aj.refl _ _,fun _ h=>h⟩);clear rk sV;go_wp2_with fail
   go_ret2
   exact⟨rfl,HE.out⟩
  | succ m=>
   obtain rfl:nn=(m:Int):=by omega
   have hm:m<ls.length:=by omega
   obtain⟨g,rfl⟩:=HA.out (by omega);obtain⟨c0,c1,c3,f3,-,lg,Vq⟩:=HC.out.level m hm;have bd:=HC.out.cells ls[m] (abE hm);have hxi:=WY.out ls[m].1 (abK.2 ⟨_,abE hm,rfl⟩);have lZ:ls.map adt=(ls.take m).map adt++ls[m].1::(ls.drop (m+1)).map adt:=by
    have e:ls=ls.take m++(ls[m]::ls.drop (m+1)):=by rw[<-List.drop_eq_getElem_cons hm,abm]
    conv=>lhs;rw[e]
    rw[abI,List.map_cons]
   have Tq:∀y∈(ls.drop (m+1)).map adt,F7 yO y:=fun y hy=>by
    obtain⟨z,hz,rfl⟩:=abK.1 hy;obtain⟨k,hk,rfl⟩:=adp.1 hz;rw[List.length_drop]at hk;rw[List.getElem_drop];exact aX (m+1+k) (by omega) (by omega)
   obtain⟨⟨x,q⟩,hxq⟩:∃z,z=ls[m]:=⟨_,rfl⟩;rw[<-hxq]at c0 c1 c3 bd hxi lZ;simp only at c0 c1 c3 bd hxi lZ;have Pr:q.n=x.cells.length:=bd.1;have ry:q.n<=q.c:=bd.2.1;have hqm:q.c<=maxLen:=bd.2.2.1;have Tz:=HS.out.some ((ls.take m).map adt) x ((ls.drop (m+1)).map adt);obtain⟨qA,qn,qc⟩:=q;simp only at Pr ry hqm c1 bd;subst Pr;unfold maxLen at hqm;obtain⟨t,ht⟩:∃t,t=(x.idx:Int)+yO:=⟨_,rfl⟩;have hw:IntKind.i64.wrap ((x.idx:Int)+yO)=t:=by rw[ht];exact acq _ (by omega)
   have ka:=sh aX;have YV:=sh hxq;have F1:=sh lZ;have HPO:=sh Tq;have Lc:=sh Tz;have oF:=sh bd;have HT:=sh ht;have y0:decide ((0:Int)<=(m:Int))=true:=decide_eq_true (by omega);have y1:(m:Int)<(ls.length:Int):=by omega
   have y2:(0:Int)<=(m:Int):=by omega
   clear vI;clear aX hxq lZ Tq Tz bd ht ZQ;by_cases VI:t<0
   ·have z1:decide (t<0)=true:=decide_eq_true VI
    go_wp2_with fail
    go_roundw
    case rel=>
     exact⟨trivial,_,m,rfl,by go_num,by omega,fun k hk h=>by
      by_cases e:k=m
      ·subst e;rw[<-YV.out];exact .inl (by rw[<-HT.out];exact VI)
      ·exact ka.out k hk (by omega)⟩
    case measure=>simp[intOf]
   have z1:decide (t<0)=false:=decide_eq_false VI;by_cases Eo:(x.cells.length:Int)<=t
   ·have z2:decide ((x.cells.length:Int)<=t)=true:=decide_eq_true Eo
    go_wp2_with fail
    go_roundw
    case rel=>
     exact⟨trivial,_,m,rfl,by go_num,by omega,fun k hk h=>by
      by_cases e:k=m
      ·subst e;rw[<-YV.out];exact .inr (by rw[<-HT.out];exact Eo)
      ·exact ka.out k hk (by omega)⟩
    case measure=>simp[intOf]
   have z2:decide ((x.cells.length:Int)<=t)=false:=decide_eq_false Eo;obtain⟨tn,rfl⟩:∃tn:Nat,t=(tn:Int):=⟨t.toNat,by omega⟩;have Px:tn<x.cells.length:=by omega
   have SM:=Lc.out tn F1.out HPO.out HT.out.symm Px;have VO:ah U wr (wr.setCell ⟨g,m*3+2,none⟩ (.int .i64 tn)):=(ah.refl _ _).setCell (.inl (HC.out.jH g rfl)) _;have GL:(wr.setCell ⟨g,m*3+2,none⟩ (.int .i64 tn)).ownsRow 0 283 3 (.slice (some ⟨g,0,none⟩) ls.length cc) ls.length (eN (ls.set m (⟨x.leaf,x.cells,tn⟩,⟨qA,x.cells.length,qc⟩))):=by
    have h9:=(aec HC.out.row (m*3+2) (.int .i64 tn)).1;rw[IC ls m hm tn,<-YV.out]at h9;exact h9
   have MY:∀y∈ls.set m ((⟨x.leaf,x.cells,tn⟩:Lv),(⟨qA,x.cells.length,qc⟩:Rw)),∃z∈ls,z.2=y.2/\z.1.cells=y.1.cells:=fun y hy=>by
    rcases List.mem_or_eq_of_mem_set hy with hy|rfl
    ·exact⟨y,hy,rfl,rfl⟩
    ·exact⟨ls[m],abE hm,by rw[<-YV.out],by rw[<-YV.out]⟩
   have cW:(ls.set m ((⟨x.leaf,x.cells,tn⟩:Lv),(⟨qA,x.cells.length,qc⟩:Rw))).take (m+1)=ls.take m++[((⟨x.leaf,x.cells,tn⟩:Lv),(⟨qA,x.cells.length,qc⟩:Rw))]:=by
    rw[List.take_succ_eq_append_getElem (by rw[aen];exact hm),List.take_set_of_le (AS m),List.getElem_set_self]
   have sn:(ls.set m ((⟨x.leaf,x.cells,tn⟩:Lv),(⟨qA,x.cells.length,qc⟩:Rw)))[m]? =some ((⟨x.leaf,x.cells,tn⟩:Lv),(⟨qA,x.cells.length,qc⟩:Rw)):=by rw[List.getElem?_set_self hm]
   have SC:kY p S σ c root R (wr.setCell ⟨g,m*3+2,none⟩ (.int .i64 tn)) U (.slice (some ⟨g,0,none⟩) ls.length cc) (ls.set m (⟨x.leaf,x.cells,tn⟩,⟨qA,x.cells.length,qc⟩)):=
    HC.out.renew hp VO (fun _ h=>h) (aj.refl _ _) (fun b hb=>aal (HC.out.lt b hb) VO.size) (HC.out.top.vV (Ne.symm Vq) _) (by rw[aen];exact GL) HC.out.jH (fun y hy=> .inl (MY y hy))
   have oC:o.isSome=true:=by
    cases o with
    | some i=>rfl
    | none=>
     rcases SM with⟨-,-,iS⟩|⟨-,d',ce,L',i2,zH,-,-,-,iS⟩
     ·have h9:(ls.take m).map adt++[(⟨x.leaf,x.cells,tn⟩:Lv)]=[]:=iS
      simp at h9
     ·have h9:(ls.take m).map adt++(⟨x.leaf,x.cells,tn⟩:Lv)::zH=[]:=iS
      simp at h9
   have HC7:=sh SC;have HO7:=sh VO;rcases SM with⟨GA,To,iS⟩|⟨GA,d',ce,L',i2,zH,sg,kx,Dj,iS⟩
   ·rw[GA]at c0
    have lS:(ls.set m ((⟨x.leaf,x.cells,tn⟩:Lv),(⟨qA,x.cells.length,qc⟩:Rw))).map adt=(ls.take m).map adt++[⟨x.leaf,x.cells,tn⟩]:=by
     have hle:ls.length<=m+1:=by
      have:=congrArg agb To;simp at this;omega
     rw[<-List.take_of_length_le (l:=ls.set m ((⟨x.leaf,x.cells,tn⟩:Lv),(⟨qA,x.cells.length,qc⟩:Rw))) (i:=m+1) (by rw[aen];exact hle),cW,abI];rfl
    have HE:=sh (show fB p S σ c root R L wr U o (wr.setCell ⟨g,m*3+2,none⟩ (.int .i64 tn)) from ⟨U,⟨_,_,SC,by rw[lS];exact iS⟩,VO,aj.refl _ _,fun _ h=>h⟩);have Un:=sh oC;clear GA To iS lS SC VO GL MY cW sn oC;go_wp2_with fail
    go_ret2
    exact⟨by rw[Un.out];rfl,HE.out⟩
   ·rw[GA]at c0
    have ho8:ah U wr ((wr.setCell ⟨g,m*3+2,none⟩ (.int .i64 tn)).setCell ⟨c,2,none⟩ (.slice (some ⟨g,0,none⟩) (m+1) cc)):=VO.setCell (.inl HC.out.mem) _;have hc8:kY p S σ c root R ((wr.setCell ⟨g,m*3+2,none⟩ (.int .i64 tn)).setCell ⟨c,2,none⟩ (.slice (some ⟨g,0,none⟩) (m+1) cc)) U (.slice (some ⟨g,0,none⟩) (m+1) cc) (ls.take m++[((⟨x.leaf,x.cells,tn⟩:Lv),(⟨qA,x.cells.length,qc⟩:Rw))]):=by
     have aaJ:ah U (wr.setCell ⟨g,m*3+2,none⟩ (.int .i64 tn)) ((wr.setCell ⟨g,m*3+2,none⟩ (.int .i64 tn)).setCell ⟨c,2,none⟩ (.slice (some ⟨g,0,none⟩) (m+1) cc)):=(ah.refl _ _).setCell (.inl SC.mem) _;have De:(ls.take m++[((⟨x.leaf,x.cells,tn⟩:Lv),(⟨qA,x.cells.length,qc⟩:Rw))]).length=m+1:=by rw[AT,abx];simp;omega
     refine SC.renew hp aaJ (fun _ h=>h) (aj.refl _ _) (fun b hb=>aal (SC.lt b hb) aaJ.size) (SC.top.put 2 _) ?_ (fun g' sk=>HC.out.jH g' sk) (fun y hy=> .inl ⟨y,?_,rfl,rfl⟩)
     ·rw[De]
      refine NU (((ah.refl [c] _).setCell (p:=⟨c,2,none⟩) (.inl (by simp)) _).own GL (fun g' sk I5=> ?_)) (by omega) ?_
      ·have e:g=g':=by simpa[aaT]using sk
       rw[IN]at I5;omega
      ·rw[D7 _ _ (by rw[aen];omega),cW]
     ·rw[<-cW]at hy
      exact List.mem_of_mem_take hy
    have hlp:(ls.take m++[((⟨x.leaf,x.cells,tn⟩:Lv),(⟨qA,x.cells.length,qc⟩:Rw))]).map adt=(ls.take m).map adt++[⟨x.leaf,x.cells,tn⟩]:=by rw[abI];rfl
    have SZ:(ls.take m++[((⟨x.leaf,x.cells,tn⟩:Lv),(⟨qA,x.cells.length,qc⟩:Rw))]).length=((ls.take m).map adt).length+1:=by simp
    have Ae:=sh (Gi hp hc8 (Hq.out _) (by simp) kx (by rw[SZ];exact Dj));obtain⟨b8,o8,Sw,-,-,-,-,-,q4⟩:=(hc8.cells _ (List.mem_append_right _ (IN.2 rfl))).at tn Px;simp only at Sw q4;subst Sw;have ZJ:(x.cells[tn]'Px).child=ce.child:=by
     rw[aaG Px]at sg;injection sg with sg;rw[sg]
    rw[ZJ]at q4;have y5:(tn:Int)<(x.cells.length:Int):=by omega
    have y6:(0:Int)<=(tn:Int):=by omega
    have y7:(m:Int)+1<=(cc:Int):=by
     have:=RB HC.out.row;omega
    have m9:=sh iS;have Ub:=sh hlp;have HO8:=sh ho8;have Un:=sh oC;clear GA sg kx Dj iS SC hc8 ho8 VO GL MY cW sn oC hlp SZ ZJ;go_wp2_with fail
    refine Ae.out.mono ?_;rintro e w1 ⟨rfl,GO⟩;have HE:=sh (show fB p S σ c root R L wr U o w1 from (oD.from HO8.out GO).post (by rw[Ub.out,aaa];exact m9.out));clear GO;go_wp2_with fail
    go_ret2
    exact⟨by rw[Un.out];rfl,HE.out⟩
def nextO (L:List En):Option Nat->Option Nat
 | none=>none
 | some i=>if i+1<L.length then some (i+1)else none
theorem JV(σ :ag)(root:Nat)(L:List En)(yO:Int)(ch:List Ce->Nat)(h:yO=1\/yO= -1):sK σ root L yO [] none ch:=
 ⟨h,fun _=>rfl,fun pre x post m hw=>by simp at hw⟩
theorem Place.idx{σ :ag}{root:Nat}{L:List En}{o:Option Nat}{dE:List Lv}(h:Place σ root L o dE):∀x∈dE,x.idx<x.cells.length:=by
 cases o with
 | none=>rw[show dE=[] from h];simp
 | some i=>obtain⟨d,h1,h2⟩:=h;exact h2.idx
theorem zo{p:ay}(hp:Reads p){S:List Nat}{σ :ag}{c root:Nat}{R:List Nat}{L:List En}{w:AI}{U:List Nat}{o:Option Nat}(h:gE p S σ c root R L w U o):
  aaf prog 78 #[.pointer (some ⟨c,0,none⟩)] w (fun e w'=>e= .returned (.tuple #[.bool (nextO L o).isSome,.int .i64 0])/\fB p S σ c root R L w U (nextO L o) w'):=by
 obtain⟨v,ls,h,iS⟩:=h;have aX:sK σ root L 1 (ls.map adt) (nextO L o) (fun _=>0):=by
  cases o with
  | none=>rw[show ls.map adt=[] from iS];exact JV _ _ _ _ _ (.inl rfl)
  | some i=>obtain⟨d,h1,h2⟩:=iS;exact FE h1 h2
 have HB:=sh (RX hp h aX iS.idx (by have:=iS.len;rwa [IS]at this) (fun W=>Gt W));clear h iS aX;go_enter func78,ntmps78
 go_wp2_with fail
 refine HB.out.mono ?_;rintro e w1 ⟨rfl,GO⟩;have HT:=sh GO;clear GO;go_wp2_with fail
 go_ret2
 exact⟨rfl,HT.out⟩
def cellAt (L:List En):Option Nat->Ce
 | none=>Ce.zero
 | some i=>((L[i]?).map (·.cell)).getD Ce.zero
def UH (c:Ce):No:= .agg #[.string c.key,.string c.val,.int .i64 c.over,.int .i64 c.size,.int .i64 c.child]
theorem TN{p:ay}{S:List Nat}{σ :ag}{c root:Nat}{R:List Nat}{L:List En}{w:AI}{U:List Nat}{o:Option Nat}(h:gE p S σ c root R L w U o):
  aaf prog 139 #[.pointer (some ⟨c,0,none⟩)] w (fun e w'=>e= .returned (.tuple #[UH (cellAt L o),.bool o.isSome])/\IT w.heap.size w w'):=by
 obtain⟨v,ls,h,iS⟩:=h;obtain⟨A,cc,rfl,hA,Bj⟩:=j8 h.row;have t2:=h.top.cell 2;have lc:=h.top.lt;cases o with
 | none=>
  have Tb:ls=[]:=List.map_eq_nil_iff.1 iS;subst Tb;clear h iS hA;go_enter func139,ntmps139
  go_wp2_with fail
  exact bodyPost_ret (v:= .tuple #[UH (cellAt L none),.bool false]) (by simp[results,results139,go_sem,UH,cellAt,Ce.zero]) rfl ⟨rfl,(BY _ w).alloc (AS _) _⟩
 | some i=>
  have KC:=iS.len;rw[IS]at KC;obtain⟨d,hd,ux⟩:=iS;obtain⟨pre,cs,a,hw,SD⟩:=ux.last;have bM:ls≠[]:=by intro e;subst e;simp at hw
  have al2:0<ls.length:=acy.2 bM;obtain⟨g,rfl⟩:=hA (by omega);obtain⟨⟨x,q⟩,hxq⟩:∃z,z=ls[ls.length-1]'(by omega):=⟨_,rfl⟩;have hx:x=⟨true,cs,a⟩:=by
   have h1:(ls.map adt)[ls.length-1]'(by rw[IS];omega)=x:=by rw[List.getElem_map,<-hxq]
   rw[<-h1];have h2:ls.length=pre.length+1:=by have:=congrArg agb hw;simpa using this
   simp only[hw];rw[List.getElem_append_right (by omega)];simp
  subst hx;obtain⟨c0,c1,c3,-,-,lg,-⟩:=h.level (ls.length-1) (by omega);have bd:=h.cells _ (abE (by omega:ls.length-1<ls.length));have hai:a<cs.length:=by
   have:=ux.lt;rw[aaG this]at SD;exact(abB.1 (SD.trans rfl)).1
  rw[<-hxq]at c0 c1 c3 bd;simp only at c0 c1 c3 bd;have gb:cellAt L (some i)=cs[a]:=by
   rw[aaG hai]at SD;show ((L[i]?).map (·.cell)).getD Ce.zero=_;rw[<-SD];rfl
  have Pr:q.n=cs.length:=bd.1;obtain⟨b8,o8,Sw,⟨-,ng⟩,q0,q1,q2,q3,q4⟩:=bd.at a hai;obtain⟨qA,qn,qc⟩:=q;simp only at Pr Sw c1;subst Pr Sw;rw[gb];obtain⟨x,hx⟩:∃x,x=cs[a]:=⟨_,rfl⟩;rw[<-hx]at q0 q1 q2 q3 q4 |-;have y1:(a:Int)<(cs.length:Int):=by omega
  have y2:(0:Int)<=(a:Int):=by omega
  have y3:((ls.length:Int)==0)=false:=by rw[beq_eq_false_iff_ne];omega
  have y4:(ls.length==0)=false:=by rw[beq_eq_false_iff_ne];omega
  obtain⟨lm,xI⟩:∃lm,lm=ls.length-1:=⟨_,rfl⟩;rw[<-xI]at c0 c1 c3;have y5:(ls.length:Int)-1=(lm:Int):=by omega
  have y6:(lm:Int)<(ls.length:Int):=by omega
  have y7:(0:Int)<=(lm:Int):=by omega
  have y8:IntKind.i64.wrap (lm:Int)=(lm:Int):=acq _ (by omega);have y9:lm<ls.length:=by omega
  clear xI;clear h ux hw SD hA hxq bd gb hx bM;go_enter func139,ntmps139
  go_wp2_with fail
  go_region
  go_wp2_with fail
  exact bodyPost_ret (v:= .tuple #[UH x,.bool true]) (by simp[results,results139,go_sem,UH]) rfl ⟨rfl,(((BY _ w).alloc (AS _) _).alloc (by simp) _).drew⟩
theorem EU{p:ay}{S:List Nat}{σ :ag}{c root:Nat}{R:List Nat}{L:List En}{w:AI}{U:List Nat}{o:Option Nat}(h:gE p S σ c root R L w U o):
  aaf prog 77 #[.pointer (some ⟨c,0,none⟩)] w (fun e w'=>e= .returned (.string (cellAt L o).key)/\IT w.heap.size w w'):=by
 have HB:=sh (TN h);obtain⟨x,hx⟩:∃x,x=cellAt L o:=⟨_,rfl⟩;rw[<-hx]at HB |-;unfold UH at HB;clear h hx;go_enter func77,ntmps77
 go_wp2_with fail
 refine HB.out.mono ?_;rintro e w1 ⟨rfl,ar⟩;have HN:=sh ar;clear ar;go_wp2_with fail
 go_ret
 exact⟨rfl,HN.out.alloc HN.out.size _⟩
def Hk (L:List En):Option Nat->List UInt8
 | none=>[]
 | some i=>((L[i]?).map (·.val)).getD []
theorem Tr.aD.nV{σ :ag}:∀ {d no:Nat} {P:List Nat} {L:List En},Tr.aD σ d no P L->∀e∈L,Tr.eI σ e
 | 0,no,P,L,h,e,he=>by
  obtain⟨cs,P',rfl,g1,g2,g3,⟨h1,h2,h3,h4⟩,g5⟩:=h;exact h4 e he
 | d+1,no,P,L,h,e,he=>by
  obtain⟨ks,hb,rfl⟩:=h.br;obtain⟨k,hk,he⟩:=List.mem_flatMap.1 he;exact Tr.aD.nV (hb.kids k hk) e he
theorem AH{p:ay}(hp:Reads p){S:List Nat}{σ :ag}{c root:Nat}{R:List Nat}{L:List En}{w:AI}{U:List Nat}{i:Nat}(h:gE p S σ c root R L w U (some i))(hi:i<L.length)(fA:∀e∈L,Tr.eI σ e):
  aaf prog 147 #[.pointer (some ⟨c,0,none⟩)] w (fun e w'=>e= .returned (.tuple #[.string ⟨(Hk L (some i)).toArray⟩,.int .i64 0])/\IT w.heap.size w w'):=by
 have HB:=sh (TN h);obtain⟨v,ls,hc,-⟩:=h;have sg:cellAt L (some i)=L[i].cell:=by show ((L[i]?).map (·.cell)).getD Ce.zero=_;rw[aaG hi];rfl
 have hva:Hk L (some i)=L[i].val:=by show ((L[i]?).map (·.val)).getD []=_;rw[aaG hi];rfl
 have HV:=sh fun(W:AI) (hb:IT w.heap.size w W)=>CV hp (hp.below hc.aa hb) L[i] (fA _ (abE hi));have t0:=hc.top.cell 0;have HT:=sh hc.top;rw[sg]at HB;rw[hva];obtain⟨x,hx⟩:∃x,x=L[i]:=⟨_,rfl⟩;rw[<-hx]at HB HV |-;unfold UH at HB;clear hc sg hva hx hi fA;go_enter func147,ntmps147
 go_wp2_with fail
 refine HB.out.mono ?_;rintro e w1 ⟨rfl,ar⟩;have HN:=sh ar;have sV:=ae HT.out ar;have vK:=sh sV;have c0:=sV.cell 0;have lc:=sV.lt;clear ar sV;go_wp2_with fail
 have cV:IT w.heap.size w (w1.alloc (.cells #[.string x.cell.key,.string x.cell.val,.int .i64 x.cell.over,.int .i64 x.cell.size,.int .i64 x.cell.child] 170)):=HN.out.alloc HN.out.size _;have rf:=Bk.new w1 170 #[.string x.cell.key,.string x.cell.val,.int .i64 x.cell.over,.int .i64 x.cell.size,.int .i64 x.cell.child];have Vb:=vK.out.alloc (.cells #[.string x.cell.key,.string x.cell.val,.int .i64 x.cell.over,.int .i64 x.cell.size,.int .i64 x.cell.child] 170);clear c0 lc;generalize w1.alloc (.cells #[.string x.cell.key,.string x.cell.val,.int .i64 x.cell.over,.int .i64 x.cell.size,.int .i64 x.cell.child] 170)=w5 at cV rf Vb |-;have HVN:=sh (HV.out _ cV.drew);have m5:=sh cV;have bD:=sh (show ∀W,IT w5.heap.size w5 W->W.cell? ⟨c,0,none⟩=some (.iface p.T p.v)/\W.cell? ⟨w1.heap.size,0,none⟩=some (.string x.cell.key)/\W.cell? ⟨w1.heap.size,1,none⟩=some (.string x.cell.val)/\W.cell? ⟨w1.heap.size,2,none⟩=some (.int .i64 x.cell.over)/\W.cell? ⟨w1.heap.size,3,none⟩=some (.int .i64 x.cell.size)/\W.cell? ⟨w1.heap.size,4,none⟩=some (.int .i64 x.cell.child) from fun W hb=>by
  have k1:=ae Vb hb;have k2:=ae rf hb;exact⟨k1.cell 0,k2.cell 0,k2.cell 1,k2.cell 2,k2.cell 3,k2.cell 4⟩)
 clear cV rf Vb;go_region_held3 (fun W=>W.cell? ⟨c,0,none⟩=some (.iface p.T p.v)/\W.cell? ⟨w1.heap.size,0,none⟩=some (.string x.cell.key)/\W.cell? ⟨w1.heap.size,1,none⟩=some (.string x.cell.val)/\W.cell? ⟨w1.heap.size,2,none⟩=some (.int .i64 x.cell.over)/\W.cell? ⟨w1.heap.size,3,none⟩=some (.int .i64 x.cell.size)/\W.cell? ⟨w1.heap.size,4,none⟩=some (.int .i64 x.cell.child))
  (first|exact bD.out _ (BY _ _).drew|exact bD.out _ rh.out) (first|(go_at_call 122;refine HVN.out.mono ?_;rintro e w2 ⟨rfl,aC⟩;have rh:=sh ((BY _ w5).drew.trans aC);have gP:=sh (m5.out.drew.trans (aC.mono m5.out.size));clear aC))
 all_goals
  go_wp2_with fail
  go_ret2
  exact⟨rfl,gP.out⟩
end Go.Proofs.YtjbcbnemdhbhbaaGreatDoor
