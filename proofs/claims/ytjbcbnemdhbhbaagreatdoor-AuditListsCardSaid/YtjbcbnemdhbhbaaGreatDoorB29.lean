import Derived.Test.YtjbcbnemdhbhbaaGreatDoorB28
import Derived.Deep.RegionHeld3
set_option maxRecDepth 100000
set_option linter.unusedVariables false
set_option linter.unusedSimpArgs false
set_option maxHeartbeats 40000000
open Go renaming Value→IS,World→AI
open Go.Lib renaming hid→sh
open Go.Value renaming ownBlock→aaU
open Go.World.ownsRow renaming cells→afw,frozenAt→adP,stored→aed
open List renaming append_assoc→OF,getElem?_eq_getElem→aaG,getElem?_eq_none→acO,getElem_mem→abw,length_append→BY,length_map→aae,length_pos_iff→acU,length_set→aem,length_take→abv,map_append→abH,mem_cons→IT,mem_cons_of_mem→ace,mem_iff_getElem→adv,mem_map→abO,mem_singleton→By,take_append_drop→abm
open Nat renaming le_refl→AS,le_trans→abE,lt_of_lt_of_le→aaf,zero_le→abc
open Option renaming mem_toList→abz
open Prod renaming fst→adx
namespace Go.Proofs.YtjbcbnemdhbhbaaGreatDoor
open Go.Proofs.Tryz
open Go.RowKit
theorem Tr.On.step{σ :ag}{d no:Nat}{L:List En}{i:Nat}{dA:List Lv}(h:Tr.On σ d no L i dA):∃(x:Lv) (rest:List Lv),dA=x::rest/\ σ no=some ⟨if x.leaf then 1 else 2,Nd.str x.leaf x.cells⟩/\Nd.right x.leaf x.cells=true/\Nd.sum x.leaf x.cells<=488/\x.idx<x.cells.length/\
  ((x.leaf=true/\rest=[])\/(x.leaf=false/\∃(d':Nat) (c:Ce) (L':List En) (i':Nat),x.cells[x.idx]? =some c/\Tr.On σ d' c.child L' i' rest)):=by
 cases d with
 | zero=>
  obtain⟨h1,h2,rfl⟩:=h;exact⟨_,_,rfl,h1.yI,h1.right,h1.sum,by rw[aae];exact h2,.inl ⟨rfl,rfl⟩⟩
 | succ d=>
  obtain⟨ks,j,i',rest,k,h1,rfl,h3,h4,rfl,rfl⟩:=h;exact⟨_,_,rfl,h1.yI,h1.right,h1.sum,by rw[aae];exact(List.getElem?_eq_some_iff.1 h3).1,.inr ⟨rfl,d,k.cell,k.L,i',by rw[List.getElem?_map,h3];rfl,h4⟩⟩
def uH (w:AI) (c:Nat):Nat:=match w.cell? ⟨c,2,none⟩with|some (.slice _ n _)=>n|_=>0
theorem Q0:(prog.info? 283).map (fun i=>(i.zero,i.size,i.bytes))=some (some (.agg #[.bool false,.slice none 0 0,.int .i64 0]),3,40):=by kernel_rfl
theorem lh.push{p:aA}(hp:Reads p){S:List Nat}{σ :ag}{c root:Nat}{R:List Nat}{w wa w3:AI}{U:List Nat}{v:IS}{ls:List (Lv×Rw)}(h:lh p S σ c root R w U v ls)(x:Lv)(q:Rw)(hr:aV w (fun b=>b∉U/\b∉R) q x.cells)(ha:ah [] w wa)(hg:wa.grownBy w3 v.ownBlock){b cap H:Nat}
  (ho:w3.ownsRow 0 283 3 (.slice (some ⟨b,0,none⟩) (ls.length+1) cap) (ls.length+1) (eM ls++[.bool x.leaf,.slice q.A q.n q.c,.int .i64 x.idx])) (cL:v.ownBlock=some b\/b=H) (hH:w.heap.size<=H) (aI:b<w3.heap.size):
  lh p S σ c root R (w3.setCell ⟨c,2,none⟩ (.slice (some ⟨b,0,none⟩) (ls.length+1) cap)) (b::U) (.slice (some ⟨b,0,none⟩) (ls.length+1) cap) (ls++[(x,q)])/\ah U w (w3.setCell ⟨c,2,none⟩ (.slice (some ⟨b,0,none⟩) (ls.length+1) cap))/\aj w U (b::U):=by
 have Gc:ah U w w3:=(ha.mono (by simp)).grown hg (fun g hg=> .inl (h.jC g hg));have Ke:Bk w3 c 215 #[.iface p.T p.v,.int .i64 root,v]:=by
  have hn:v.ownBlock≠some c:=bP h.row h.top (by decide);have Gd:ah v.ownBlock.toList w w3:=(ha.mono (by simp)).grown hg (fun g hg=> .inl (by rw[abz];exact hg));exact Gd.bk h.top (fun hh=>hn (abz.1 hh))
 have hbc:b≠c:=fun e=>bP ho Ke (by decide) (by rw[e];rfl);have QI:ah U w (w3.setCell ⟨c,2,none⟩ (.slice (some ⟨b,0,none⟩) (ls.length+1) cap)):=Gc.setCell (.inl h.mem) _;have hf:aj w U (b::U):=fun y hy=>by
  rcases IT.1 hy with rfl|hy
  ·rcases cL with h1|h1
   ·exact .inl (h.jC _ h1)
   ·exact .inr (by omega)
  ·exact .inl hy
 refine⟨h.renew hp QI (fun y hy=>ace _ hy) hf (fun y hy=> ?_) (Ke.put 2 _) ?_ (fun g hg=> ?_) (fun y hy=> ?_),QI,hf⟩
 ·rcases IT.1 hy with rfl|hy
  ·simpa using aI
  ·exact aaf (h.lt y hy) QI.size
 ·rw[wG,Ie,BY]
  exact((ah.refl [c] w3).setCell (p:=⟨c,2,none⟩) (.inl (by simp)) _).own ho (fun g hg hm=>by
   have e:b=g:=by simpa[aaU]using hg
   rw[By]at hm;omega)
 ·have e:b=g:=by simpa[aaU]using hg
  simp[e]
 ·rcases List.mem_append.1 hy with hy|hy
  ·exact .inl ⟨y,hy,rfl,rfl⟩
  ·rw[By]at hy
   subst hy;refine .inr (hr.keep QI.size (fun z hz aI=>QI.block z aI hz.1) (fun z hz aI=>⟨fun hm=> ?_,hz.2⟩));rcases hf z hm with h1|h1
   ·exact hz.1 h1
   ·omega
def oq (p:aA) (S:List Nat) (σ :ag) (c root:Nat) (R:List Nat) (w:AI) (U:List Nat) (dA:List Lv) (w':AI):Prop:=
 ∃(U':List Nat) (v:IS) (ls:List (Lv×Rw)),ls.map adx=dA/\lh p S σ c root R w' U' v ls/\ah U w w'/\aj w U U'/\∀b∈U,b∈U'
theorem FW{p:aA}(hp:Reads p){S:List Nat}{σ :ag}{c root:Nat}{R:List Nat}{w:AI}{U:List Nat}{v:IS}{ls:List (Lv×Rw)}(h:lh p S σ c root R w U v ls){fc:Nat}{cR:Array IS}{X:List Nat}{ch:List Ce->Nat}(mX:Pf fc cR X w ch)(hX:∀b∈X,b<w.heap.size/\b∉U)
  {d no:Nat} {L:List En} {i:Nat} {dA:List Lv} (hd:Tr.Dn σ ch d no L i dA) (hl:ls.length+dA.length<=10):
  Calls prog 188 #[.pointer (some ⟨c,0,none⟩),.int .i64 no,.func (.func fc) #[] cR] w (fun e w'=>e= .returned (.tuple #[.bool true,.int .i64 0])/\oq p S σ c root R w U (ls.map adx++dA) w'):=by
 have he:=mX.enter;have KB:=sh mX.yf;have HC:=sh h;have HX:=sh hX;have HD:=sh hd;obtain⟨inf,hi,ef,dK,dY⟩:=info_parts Q0;clear h hX hd mX;go_enter func188,ntmps188
 go_wp2_with fail
 go_loopw [1] (fun n wr=>∃(no':Nat) (dn:List (Lv×Rw)) (U':List Nat) (v':IS) (d':Nat) (L':List En) (i':Nat) (rest:List Lv),n= .int .i64 no'/\lh p S σ c root R wr U' v' (ls++dn)/\dA=dn.map adx++rest/\Tr.On σ d' no' L' i' rest/\ah U w wr/\aj w U U'/\∀b∈U,b∈U') (fun _ wr=>20-uH wr c)
 case atStart=>exact⟨no,[],U,v,d,L,i,dA,rfl,by rw[List.append_nil];exact HC.out,rfl,HD.out.1,ah.refl _ _,aj.refl _ _,fun _ h=>h⟩
 case round=>
  obtain⟨no',dn,U',v',d',L',i',rest,rfl,hc,hw,tF,bS,bZ,nT⟩:=hrel;obtain⟨x,po,rfl,vw,IQ,rh,Vs,pI⟩:=tF.step;have hlen:(ls++dn).length<10:=by
   have:dA.length=dn.length+(po.length+1):=by rw[hw];simp
   rw[BY];omega
  have hxi:x.idx=ch x.cells:=HD.out.2 x (by rw[hw];simp);have bL:x.cells≠[]:=by intro e;rw[e]at Vs;simp at Vs
  have od:x.cells.length<=300:=by have:=Nd.e8 x.leaf x.cells;omega
  have SU:Kept X w wr:=fun b hb=>⟨aaf (HX.out b hb).1 bS.size,bS.block b (HX.out b hb).1 (HX.out b hb).2⟩;obtain⟨lz,hlz⟩:∃lz,lz=ls++dn:=⟨_,rfl⟩;rw[<-hlz]at hc hlen;have El:uH wr c=lz.length:=by
   obtain⟨A,cc,rfl,-,-⟩:=jT hc.row;unfold uH;rw[hc.top.cell 2];rfl
  have De:=sh (Lu hp hc hlen no' x.leaf x.cells vw IQ rh bL);have HWL:=sh El;have HLZ:=sh hlz;clear hlz;have HON:=sh tF;have XP:=sh hc;have HW:=sh hw;have oc:=sh pI;have zb:=sh (show ah U w wr/\aj w U U'/\∀b∈U,b∈U' from ⟨bS,bZ,nT⟩);have HKX:=sh SU;clear hc hw tF bS bZ nT vw IQ rh pI SU El;go_wp2_with fail
  refine De.out.mono ?_;rintro e w1 ⟨ar,q,rfl,Gh⟩;obtain⟨qA,qn,qc⟩:=q;have O5:qn=x.cells.length:=Gh.1;subst O5;have bh:=sh ar;have YE:=sh Gh;have Qr:=XP.out.below hp ar;obtain⟨A,cc,hv,-,Aw⟩:=jT Qr.row;rw[hv]at Qr;have C9:=sh Qr;have XO:=sh fun(W:AI) (hb:Below w1.heap.size w1 W)=>KB.out W (fun b jt=>⟨aaf (HKX.out b jt).1 (abE ar.size hb.size),((hb.block b (aaf (HKX.out b jt).1 ar.size)).trans (ar.block b (HKX.out b jt).1)).trans (HKX.out b jt).2⟩) x.leaf ⟨qA,x.cells.length,qc⟩ _ x.cells (Gh.below hb) bL od;rw[<-hxi]at XO;clear hxi;clear ar Gh Qr;go_wp2_with fail
  refine(XO.out _ ((Below.refl _ _).alloc (AS _) _)).mono ?_;rintro e w2 ⟨rfl,az⟩;obtain⟨r0,r1,r2,l2,jv,bO⟩:=rF az;have fY:=sh jv;have sf:=sh bO;have g2:=bO.frozen 2;have L4:=C9.out.below hp jv;have c2:=L4.top.cell 2;have f2:=L4.top.frozen 2;have lc:=L4.top.lt;have J4:=sh L4;clear az jv bO L4;go_wp2_with fail
  have dO:Below w1.heap.size w1 (w2.setCell ⟨w1.heap.size,2,none⟩ (.int .i64 x.idx)):=((ah.ae fY.out []).setCell (p:=⟨w1.heap.size,2,none⟩) (.inr (AS _)) _).below (AS _) (by simp);have uV:Bk (w2.setCell ⟨w1.heap.size,2,none⟩ (.int .i64 x.idx)) w1.heap.size 283 #[.bool x.leaf,.slice qA x.cells.length qc,.int .i64 x.idx]:=sf.out.put 2 _;clear r0 r1 r2 l2 g2 c2 f2 lc;generalize w2.setCell ⟨w1.heap.size,2,none⟩ (.int .i64 x.idx)=w5 at dO uV |-;have DX:=C9.out.below hp dO;have oR:aV w5 (fun b=>b∉U'/\b∉R) ⟨qA,x.cells.length,qc⟩ x.cells:=YE.out.keep dO.size (fun b _ aI=>dO.block b aI) (fun b hb aI=>⟨fun hm=>by have:=XP.out.lt b hm;omega,fun hm=>by have:=XP.out.TD b hm;omega⟩);have Tf:∀g,aaU (.slice A lz.length cc)=some g->g≠c/\g≠w1.heap.size:=fun g hg=>⟨fun e=>bP DX.row DX.top (by decide) (e ▸ hg),fun e=>by have:=C9.out.lt g (C9.out.jC g hg);omega⟩;have bH:=sh (show ∀W,ah (aaU (.slice A lz.length cc)).toList w5 W->W.cell? ⟨c,2,none⟩=some (.slice A lz.length cc)/\W.cell? ⟨w1.heap.size,0,none⟩=some (.bool x.leaf)/\W.cell? ⟨w1.heap.size,1,none⟩=some (.slice qA x.cells.length qc)/\W.cell? ⟨w1.heap.size,2,none⟩=some (.int .i64 x.idx) from fun W hW=>by
   have b1:=hW.bk DX.top (fun hm=>(Tf c (abz.1 hm)).1 rfl);have b2:=hW.bk uV (fun hm=>(Tf _ (abz.1 hm)).2 rfl);exact⟨b1.cell 2,b2.cell 0,b2.cell 1,b2.cell 2⟩)
  have XU:=sh (show ∀W W3,ah [] w5 W->W.grownBy W3 (aaU (.slice A lz.length cc))->ah (aaU (.slice A lz.length cc)).toList w5 W3 from fun W W3 h1 h2=>(h1.mono (by simp)).grown h2 (fun g hg=> .inl (by rw[abz];exact hg)));have HFZ:=sh (show ∀W,ah (aaU (.slice A lz.length cc)).toList w5 W->W.frozen? ⟨c,2,none⟩=false/\c<W.heap.size from fun W hW=>by
   have b1:=hW.bk DX.top (fun hm=>(Tf c (abz.1 hm)).1 rfl);exact⟨b1.frozen 2,b1.lt⟩)
  have CH:=sh DX;have sg:=sh uV;have WS:=sh Vs;have HR5:=sh oR;have eJ:=sh DX.row;have ou:=sh dO;have aib:lz.length<=10:=by omega
  have HI:=sh hi;have HZ0:=sh ef;have Kb:=sh dK;have CL:=sh dY;clear dO uV DX oR Tf hi ef dK dY;obtain⟨a0,a1,a2,a3⟩:=bH.out w5 (ah.refl _ _);obtain⟨a4,a5⟩:=HFZ.out w5 (ah.refl _ _);have adq:=sh bH.out;clear adq;first
   | go_region_law ((refine step_append_lies _ (by rfl) _ _ 213 (by rfl) 0 283 inf (.agg #[.bool false,.slice none 0 0,.int .i64 0]) 3 40 underlying213 HI.out HZ0.out Kb.out CL.out (by rfl) (by omega) _ _ _ (by rfl) (eJ.out.alloc _) _ 1 1 [.bool x.leaf,.slice qA x.cells.length qc,.int .i64 x.idx] (by rfl) (by rfl) (World.news_of_block (cs:= #[.bool x.leaf,.slice qA x.cells.length qc,.int .i64 x.idx]) (heap_alloc_new w5 _)) (DN (x,⟨qA,x.cells.length,qc⟩)) (by omega) (by unfold maxLen;omega) (by omega) (abc _) (w5.heap.size+1) (by simp) ?_;intro b cap w3 aw aF df tB;have Gc:=sh (XU.out _ w3 (((ah.refl [] w5).alloc _).drew) aF);have WZ:=sh (CH.out.push hp x ⟨qA,x.cells.length,qc⟩ HR5.out (((ah.refl [] w5).alloc _).drew) aF aw df (by omega) tB);obtain⟨z1,z2⟩:=HFZ.out _ Gc.out;have z3:=(bH.out _ Gc.out).1;  clear aw aF df))
   | fail
  all_goals
   obtain⟨hc6,QI,hf6⟩:=WZ.out;have D6:=QI.bk sg.out (fun hm=>by have:=C9.out.lt _ hm;omega);have d0:=D6.cell 0;have d1:=D6.cell 1;have d2:=D6.cell 2;have ld:=D6.lt;have AN:ah U w (w3.setCell ⟨c,2,none⟩ (.slice (some ⟨b,0,none⟩) (lz.length+1) cap)):=zb.out.1.then (((ah.ae bh.out U').trans (ah.ae ou.out U')).trans QI) zb.out.2.1;have ju:aj w U (b::U'):=zb.out.2.1.trans (hf6.mono (abE bh.out.size ou.out.size)) zb.out.1.size;have Tt:∀y∈U,y∈b::U':=fun y hy=>ace _ (zb.out.2.2 y hy);have OI:=sh hc6;have WX:=sh (show ah U w (w3.setCell ⟨c,2,none⟩ (.slice (some ⟨b,0,none⟩) (lz.length+1) cap))/\aj w U (b::U')/\∀y∈U,y∈b::U' from ⟨AN,ju,Tt⟩);have HR6:=sh (hc6.cells (x,⟨qA,x.cells.length,qc⟩) (by simp)).at;have AJ:(lz++[(x,(⟨qA,x.cells.length,qc⟩:Rw))]).map adx=ls.map adx++(dn.map adx++[x]):=by rw[HLZ.out];simp
   have adw:=sh AJ;clear WZ hc6 QI hf6 D6 AN ju Tt AJ;rcases oc.out with⟨IF,Gf⟩|⟨IF,d2',ce,L2,i2,uS,aaP⟩
   ·rw[IF]at d0
    have HRS:=sh Gf;clear IF Gf;go_wp2_with fail
    go_ret2
    exact⟨rfl,_,_,_,by rw[adw.out,HW.out,HRS.out],OI.out,WX.out⟩
   ·rw[IF]at d0
    have HCE:=sh uS;have Yh:=sh aaP;clear IF uS aaP;obtain⟨b8,o8,Sw,-,-,-,-,-,q4⟩:=HR6.out x.idx WS.out;simp only at Sw;subst Sw;have mX:(x.cells[x.idx]'WS.out).child=ce.child:=by
     have h9:=HCE.out;rw[aaG WS.out]at h9;injection h9 with h9;rw[h9]
    rw[mX]at q4;have y1:(x.idx:Int)<(x.cells.length:Int):=by have:=WS.out;omega
    have y2:(0:Int)<=(x.idx:Int):=by omega
    have abu:uH (w3.setCell ⟨c,2,none⟩ (.slice (some ⟨b,0,none⟩) (lz.length+1) cap)) c=lz.length+1:=by
     unfold uH;rw[OI.out.top.cell 2];rfl
    have aeb:=sh abu;have vX:=sh hlen;clear mX abu;go_wp2_with fail
    go_roundw
    case rel=>
     first
      | exact⟨ce.child,dn++[(x,⟨some ⟨b8,o8,none⟩,x.cells.length,qc⟩)],_,_,d2',L2,i2,po,rfl,by rw[<-OF,<-HLZ.out];exact OI.out,by rw[HW.out];simp,Yh.out,WX.out⟩
      | ((repeat apply Exists.intro);exact⟨⟨ce.child,dn++[(x,⟨some ⟨b8,o8,none⟩,x.cells.length,qc⟩)],_,_,d2',L2,i2,po,rfl,by rw[<-OF,<-HLZ.out];exact OI.out,by rw[HW.out];simp,Yh.out,WX.out⟩,rfl⟩)
    case measure=>
     rw[aeb.out,HWL.out];have:=vX.out;omega
def Place (σ :ag) (root:Nat) (L:List En):Option Nat->List Lv->Prop
 | none,dA=>dA=[]
 | some i,dA=>∃d,d<=8/\Tr.On σ d root L i dA
theorem Place.len{σ :ag}{root:Nat}{L:List En}{o:Option Nat}{dA:List Lv}(h:Place σ root L o dA):dA.length<=9:=by
 cases o with
 | none=>rw[show dA=[] from h];simp
 | some i=>obtain⟨d,h1,h2⟩:=h;rw[h2.len];omega
def fQ (p:aA) (S:List Nat) (σ :ag) (c root:Nat) (R:List Nat) (L:List En) (w:AI) (U:List Nat) (o:Option Nat):Prop:=
 ∃(v:IS) (ls:List (Lv×Rw)),lh p S σ c root R w U v ls/\Place σ root L o (ls.map adx)
def gk (p:aA) (S:List Nat) (σ :ag) (c root:Nat) (R:List Nat) (L:List En) (w:AI) (U:List Nat) (o:Option Nat) (w':AI):Prop:=
 ∃U',fQ p S σ c root R L w' U' o/\ah U w w'/\aj w U U'/\∀b∈U,b∈U'
theorem oq.post{p:aA}{S:List Nat}{σ :ag}{c root:Nat}{R:List Nat}{L:List En}{w w':AI}{U:List Nat}{o:Option Nat}{dA:List Lv}(h:oq p S σ c root R w U dA w')(ho:Place σ root L o dA):gk p S σ c root R L w U o w':=by
 obtain⟨U',v,ls,e,h1,h2,h3,h4⟩:=h;exact⟨U',⟨v,ls,h1,by rw[e];exact ho⟩,h2,h3,h4⟩
theorem oq.from{p:aA}{S:List Nat}{σ :ag}{c root:Nat}{R:List Nat}{w w1 w':AI}{U:List Nat}{dA:List Lv}(ho:ah U w w1)(h:oq p S σ c root R w1 U dA w'):oq p S σ c root R w U dA w':=by
 obtain⟨U',v,ls,e,h1,h2,h3,h4⟩:=h;exact⟨U',v,ls,e,h1,ho.trans h2,fun b hb=>(h3 b hb).imp id (fun h=>abE ho.size h),h4⟩
def Whole (σ :ag) (root:Nat) (L:List En):Prop:=(root=0/\L=[])\/∃d P,d<=8/\Tr.aJ σ d root P L
theorem Tr.dE.whole{σ :ag}{root:Nat}{P:List Nat}{L:List En}(h:Tr.dE σ root P L)(hn:P.Nodup):Whole σ root L:=by
 rcases h with⟨rfl,rfl,rfl⟩|⟨d,h⟩
 ·exact .inl ⟨rfl,rfl⟩
 ·exact .inr ⟨d,P,h.low hn,h⟩
theorem Ln{p:aA}(hp:Reads p){S:List Nat}{σ :ag}{c root:Nat}{R:List Nat}{L:List En}{w:AI}{U:List Nat}{v:IS}{ls:List (Lv×Rw)}(h:lh p S σ c root R w U v ls)(hL:Whole σ root L){fc:Nat}{cR:Array IS}{X:List Nat}{ch:List Ce->Nat}(mX:∀W,Kept X w W->Pf fc cR X W ch)(hX:∀b∈X,b<w.heap.size/\b∉U)(hc:∀l,l≠[]->ch l<l.length):
  Calls prog 137 #[.pointer (some ⟨c,0,none⟩),.func (.func fc) #[] cR] w (fun e w'=>(L=[]/\e= .returned (.tuple #[.bool false,.int .i64 0])/\gk p S σ c root R L w U none w')\/(∃d i dA,d<=8/\Tr.Dn σ ch d root L i dA/\e= .returned (.tuple #[.bool true,.int .i64 0])/\oq p S σ c root R w U dA w')):=by
 have t1:=h.top.cell 1;have t2:=h.top.cell 2;have f2:=h.top.frozen 2;have lc:=h.top.lt;have ho:ah U w (w.setCell ⟨c,2,none⟩ (.slice none 0 0)):=(ah.refl _ _).setCell (.inl h.mem) _;have uR:lh p S σ c root R (w.setCell ⟨c,2,none⟩ (.slice none 0 0)) U (.slice none 0 0) []:=h.renew hp ho (fun _ h=>h) (aj.refl _ _) (fun b hb=>aaf (h.lt b hb) ho.size) (h.top.put 2 _) (World.ownsRow_nil _ _ _ _) (by intro g hg;cases hg) (by simp);have HO:=sh ho;have HC:=sh uR;rcases hL with⟨rfl,rfl⟩|⟨d,P,hd,bm⟩
 ·clear h ho uR mX hX hc
  go_enter func137,ntmps137
  go_wp2_with fail
  go_ret2
  exact .inl ⟨trivial,rfl,U,⟨_,[],HC.out,rfl⟩,HO.out,aj.refl _ _,fun _ h=>h⟩
 ·obtain⟨i,dA,km⟩:=Tr.LG (ch:=ch) hc bm
  have iP:1<=root:=by obtain⟨_,_,_,g,_⟩:=bm;exact g
  have z1:((root:Int)==0)=false:=by rw[beq_eq_false_iff_ne];omega
  have z2:(root==0)=false:=by rw[beq_eq_false_iff_ne];omega
  have SU:Kept X w (w.setCell ⟨c,2,none⟩ (.slice none 0 0)):=fun b hb=>⟨aaf (hX b hb).1 ho.size,ho.block b (hX b hb).1 (hX b hb).2⟩;have HD:=sh (FW hp uR (mX _ SU) (fun b hb=>⟨aaf (hX b hb).1 ho.size,(hX b hb).2⟩) km (by rw[km.1.len];simp;omega));have zr:=sh km;clear h ho uR mX hX hc bm km SU;go_enter func137,ntmps137
  go_wp2_with fail
  refine HD.out.mono ?_;rintro e w1 ⟨rfl,Gm⟩;have HT:=sh Gm;clear Gm;go_wp2_with fail
  go_ret2
  exact .inr ⟨d,i,dA,hd,zr.out,rfl,oq.from HO.out (by simpa using HT.out)⟩
theorem Ah{p:aA}(hp:Reads p){S:List Nat}{σ :ag}{c root:Nat}{R:List Nat}{L:List En}{w:AI}{U:List Nat}{o:Option Nat}(h:fQ p S σ c root R L w U o)(hL:Whole σ root L):
  Calls prog 76 #[.pointer (some ⟨c,0,none⟩)] w (fun e w'=>e= .returned (.tuple #[.bool (decide (L≠[])),.int .i64 0])/\gk p S σ c root R L w U (if L=[]then none else some 0) w'):=by
 obtain⟨v,ls,h,-⟩:=h;have HB:=sh (Ln hp h hL (X:=[]) (fun W _=>F5 W) (by simp) (fun l hl=>acU.2 hl));clear h hL;go_enter func76,ntmps76
 go_wp2_with fail
 refine HB.out.mono ?_;rintro e w1 (⟨rfl,rfl,Gm⟩|⟨d,i,dA,hd,km,rfl,Gm⟩)
 ·have HT:=sh Gm
  clear Gm;go_wp2_with fail
  go_ret2
  exact⟨rfl,HT.out⟩
 ·have hi:=Tr.FV km
  subst hi;have bL:L≠[]:=by have:=km.1.lt;intro e;rw[e]at this;simp at this
  have HT:=sh (Gm.post (o:=some 0) ⟨d,hd,km.1⟩);have WW:=sh bL;clear Gm km bL;go_wp2_with fail
  go_ret2
  exact⟨rfl,HT.out⟩
def FJ (yc:Int) (x:Lv):Prop:=(x.idx:Int)+yc<0\/(x.cells.length:Int)<=(x.idx:Int)+yc
structure sk (σ :ag) (root:Nat) (L:List En) (yc:Int) (dA:List Lv) (o:Option Nat) (ch:List Ce->Nat):Prop where
 dir:yc=1\/yc= -1
 none:(∀x∈dA,FJ yc x)->o=none
 some:∀pre x post m,dA=pre++x::post->(∀y∈post,FJ yc y)->(x.idx:Int)+yc=((m:Nat):Int)->m<x.cells.length->
  (x.leaf=true/\post=[]/\Place σ root L o (pre++[⟨x.leaf,x.cells,m⟩]))\/(x.leaf=false/\∃(d':Nat) (c:Ce) (L':List En) (i2:Nat) (yZ:List Lv),x.cells[m]? =Option.some c/\Tr.Dn σ ch d' c.child L' i2 yZ/\pre.length+1+yZ.length<=10/\Place σ root L o (pre++⟨x.leaf,x.cells,m⟩::yZ))
theorem Fe{σ :ag}{d root:Nat}{L:List En}{i:Nat}{dA:List Lv}(hd:d<=8)(h:Tr.On σ d root L i dA):sk σ root L 1 dA (if i+1<L.length then some (i+1)else none) (fun _=>0) where
 dir:= .inl rfl
 none:=fun ha=>by
  have:=h.at_end (fun x hx=>by rcases ha x hx with h1|h1<;>omega);rw[if_neg (by omega)]
 some:=fun pre x post m hw ha hm O1=>by
  subst hw;have e:m=x.idx+1:=by omega
  subst e;have ha2:∀y∈post,y.cells.length<=y.idx+1:=fun y hy=>by rcases ha y hy with h1|h1<;>omega
  rcases Tr.On.Sv pre h ha2 O1 with⟨g1,g2⟩|⟨g1,d',c,L',P',g2,g3,g4,g5⟩
  ·have hp:post=[]:=by
    have l1:=h.len;have l2:=g2.len;simp at l1 l2;exact List.eq_nil_of_length_eq_zero (by omega)
   rw[if_pos g2.lt,g1];exact .inl ⟨rfl,hp,d,hd,g2⟩
  ·obtain⟨i2,yZ,km⟩:=Tr.LG (ch:=fun _=>0) (fun l hl=>acU.2 hl) g3
   have e2:=Tr.FV km;subst e2;have tF:=g5 yZ km.1;rw[if_pos tF.lt,g1];exact .inr ⟨rfl,d',c,L',0,yZ,g2,km,by have:=tF.len;simp at this;omega,d,hd,tF⟩
theorem NF{w:AI}{B g n n' cap s:Nat}{e:TypeId}{xs ys:List IS}(h:w.ownsRow B e s (.slice (some ⟨g,0,none⟩) n cap) n xs)(hn:n'<=n)(hy:ys=xs.take (n'*s)):w.ownsRow B e s (.slice (some ⟨g,0,none⟩) n' cap) n' ys:=by
 obtain⟨h1,h2⟩:=h;rcases h2 with⟨h0,_⟩|⟨g',DA,cur,hv,hg,hh,uX,qg,cZ,cW⟩
 ·cases h0
 ·cases hv
  have hm:n'*s<=n*s:=Nat.mul_le_mul_right _ hn;refine⟨by rw[hy,abv,h1];omega,.inr ⟨g,cap,cur,rfl,hg,hh,by omega,qg,cZ,?_⟩⟩;rw[hy,<-cW,List.take_take,Nat.min_eq_left hm]
theorem Rp{w:AI}{B n c s:Nat}{A:Option Addr}{e:TypeId}{xs:List IS}(h:w.ownsRow B e s (.slice A n c) n xs):n<=c:=by
 rcases h.2 with⟨h0,h1⟩|⟨g',DA,cur,hv,hg,hh,uX,_⟩
 ·omega
 ·cases hv;exact uX
theorem DO(ls:List (Lv×Rw))(n:Nat)(h:n<=ls.length):(eM ls).take (n*3)=eM (ls.take n):=by
 have e:ls=ls.take n++ls.drop n:=(abm n ls).symm;have hl:(eM (ls.take n)).length=n*3:=by rw[jK,abv];omega
 conv=>lhs;rw[e,wG]
 rw[<-hl,List.take_left]
theorem Ig(ls:List (Lv×Rw))(j:Nat)(h:j<ls.length)(m:Nat):(eM ls).set (j*3+2) (.int .i64 m)=eM (ls.set j (⟨ls[j].1.leaf,ls[j].1.cells,m⟩,ls[j].2)):=by
 apply List.ext_getElem?;intro k;by_cases hk:k<ls.length*3
 ·have dx:k=(k/3)*3+k%3:=by omega
  have hd:k/3<ls.length:=by omega
  have hm:k%3<3:=by omega
  have e1:=ik ls (k/3) hd (k%3) hm;have e2:=ik (ls.set j (⟨ls[j].1.leaf,ls[j].1.cells,m⟩,ls[j].2)) (k/3) (by rw[aem];exact hd) (k%3) hm;rw[<-dx]at e1 e2;rw[e2,List.getElem?_set];by_cases hj:j*3+2=k
  ·have h1:k/3=j:=by omega
   have h2:k%3=2:=by omega
   rw[if_pos hj,if_pos (by rw[jK];omega)];simp[h1,h2,Q5]
  ·rw[if_neg hj,e1]
   by_cases F9:j=k/3
   ·have h2:k%3=0\/k%3=1:=by omega
    subst F9;rcases h2 with h2|h2<;>simp[h2,Q5]
   ·rw[List.getElem_set_ne F9]
 ·rw[acO (by rw[aem,jK];omega),acO (by rw[jK,aem];omega)]
theorem lh.level{p:aA}{S:List Nat}{σ :ag}{c root:Nat}{R:List Nat}{w:AI}{U:List Nat}{g n cap:Nat}{ls:List (Lv×Rw)}(h:lh p S σ c root R w U (.slice (some ⟨g,0,none⟩) n cap) ls)(j:Nat)(hj:j<ls.length):
  w.cell? ⟨g,j*3,none⟩=some (.bool ls[j].1.leaf)/\w.cell? ⟨g,j*3+1,none⟩=some (.slice ls[j].2.A ls[j].2.n ls[j].2.c)/\w.cell? ⟨g,j*3+2,none⟩=some (.int .i64 ls[j].1.idx)/\w.frozen? ⟨g,j*3+2,none⟩=false/\n=ls.length/\g<w.heap.size/\g≠c:=by
 obtain⟨_,_,hv,-,-⟩:=jT h.row;injection hv with e1 e2 e3;subst e2;have hc:=afw h.row (g:=g) rfl;have ha:∀k,((⟨g,0,none⟩:Addr).add k)=⟨g,k,none⟩:=fun k=>by rw[bI,Nat.zero_add]
 have hg:∀k u,(eM ls)[k]? =some u->w.cell? ⟨g,k,none⟩=some u:=fun k u hu=>by rw[<-ha k];exact hc k u hu
 exact⟨hg _ _ (ik ls j hj 0 (by omega)),hg _ _ (ik ls j hj 1 (by omega)),hg _ _ (ik ls j hj 2 (by omega)),adP h.row _,rfl,h.lt g (h.jC g rfl),fun e=>bP h.row h.top (by decide) (by rw[e];rfl)⟩
theorem RM{p:aA}(hp:Reads p){S:List Nat}{σ :ag}{c root:Nat}{R:List Nat}{L:List En}{w:AI}{U:List Nat}{v:IS}{ls:List (Lv×Rw)}{yc:Int}{o:Option Nat}{fc:Nat}{ch:List Ce->Nat}(h:lh p S σ c root R w U v ls)(hs:sk σ root L yc (ls.map adx) o ch)(Vs:∀x∈ls.map adx,x.idx<x.cells.length)(hl:ls.length<=9)(mX:∀W,Pf fc #[] [] W ch):
  Calls prog 140 #[.pointer (some ⟨c,0,none⟩),.int .i64 yc,.func (.func fc) #[] #[]] w (fun e w'=>e= .returned (.tuple #[.bool o.isSome,.int .i64 0])/\gk p S σ c root R L w U o w'):=by
 obtain⟨A,cc,rfl,hA,Aw⟩:=jT h.row;have t2:=h.top.cell 2;have f2:=h.top.frozen 2;have lc:=h.top.lt;have ZS:=hs.dir;have HC:=sh h;have HS:=sh hs;have WS:=sh Vs;have KB:=sh mX;have HA:=sh hA;have nk:=sh (Lx hp h 0);clear h hs Vs mX hA;go_enter func140,ntmps140
 go_wp2_with fail
 go_loopw [8] (fun n wr=>wr=w/\∃(nn:Int) (j:Nat),n= .int .i64 nn/\nn=(j:Int)-1/\j<=ls.length/\∀k (hk:k<ls.length),j<=k->FJ yc ls[k].1) (fun n _=>(intOf n+1).toNat)
 case atStart=>exact⟨rfl,_,ls.length,rfl,rfl,AS _,fun k hk h=>by omega⟩
 case round=>
  obtain⟨rfl,nn,j,rfl,uX,hj,bm⟩:=hrel;cases j with
  | zero=>
   obtain rfl:nn= -1:=by omega
   have ho:o=none:=HS.out.none fun x hx=>by
    obtain⟨y,hy,rfl⟩:=abO.1 hx;obtain⟨k,hk,rfl⟩:=adv.1 hy;exact bm k hk (abc _)
   subst ho;clear bm uX hj ZS;have y0:decide ((0:Int)<= -1)=false:=rfl;go_wp2_with fail
   refine nk.out.mono ?_;rintro e w1 ⟨rfl,qW,rW⟩;have HE:=sh (show gk p S σ c root R L wr U none w1 from ⟨U,⟨_,[],rW,rfl⟩,qW,aj.refl _ _,fun _ h=>h⟩);clear qW rW;go_wp2_with fail
   go_ret2
   exact⟨rfl,HE.out⟩
  | succ m=>
   obtain rfl:nn=(m:Int):=by omega
   have hm:m<ls.length:=by omega
   obtain⟨g,rfl⟩:=HA.out (by omega);obtain⟨c0,c1,c3,f3,-,lg,hgc⟩:=HC.out.level m hm;have bc:=HC.out.cells ls[m] (abw hm);have hxi:=WS.out ls[m].1 (abO.2 ⟨_,abw hm,rfl⟩);have lU:ls.map adx=(ls.take m).map adx++ls[m].1::(ls.drop (m+1)).map adx:=by
    have e:ls=ls.take m++(ls[m]::ls.drop (m+1)):=by rw[<-List.drop_eq_getElem_cons hm,abm]
    conv=>lhs;rw[e]
    rw[abH,List.map_cons]
   have Tm:∀y∈(ls.drop (m+1)).map adx,FJ yc y:=fun y hy=>by
    obtain⟨z,hz,rfl⟩:=abO.1 hy;obtain⟨k,hk,rfl⟩:=adv.1 hz;rw[List.length_drop]at hk;rw[List.getElem_drop];exact bm (m+1+k) (by omega) (by omega)
   obtain⟨⟨x,q⟩,hxq⟩:∃z,z=ls[m]:=⟨_,rfl⟩;rw[<-hxq]at c0 c1 c3 bc hxi lU;simp only at c0 c1 c3 bc hxi lU;have O5:q.n=x.cells.length:=bc.1;have qZ:q.n<=q.c:=bc.2.1;have hqm:q.c<=maxLen:=bc.2.2.1;have Ts:=HS.out.some ((ls.take m).map adx) x ((ls.drop (m+1)).map adx);obtain⟨qA,qn,qc⟩:=q;simp only at O5 qZ hqm c1 bc;subst O5;unfold maxLen at hqm;obtain⟨t,ht⟩:∃t,t=(x.idx:Int)+yc:=⟨_,rfl⟩;have hw:IntKind.i64.wrap ((x.idx:Int)+yc)=t:=by rw[ht];exact IntWalk.i64_in _ (by omega)
   have j5:=sh bm;have YS:=sh hxq;have FE:=sh lU;have HPO:=sh Tm;have Dl:=sh Ts;have pN:=sh bc;have HT:=sh ht;have y0:decide ((0:Int)<=(m:Int))=true:=decide_eq_true (by omega);have y1:(m:Int)<(ls.length:Int):=by omega
   have y2:(0:Int)<=(m:Int):=by omega
   clear uX;clear bm hxq lU Tm Ts bc ht ZS;by_cases VF:t<0
   ·have z1:decide (t<0)=true:=decide_eq_true VF
    go_wp2_with fail
    go_roundw
    case rel=>
     exact⟨trivial,_,m,rfl,by go_num,by omega,fun k hk h=>by
      by_cases e:k=m
      ·subst e;rw[<-YS.out];exact .inl (by rw[<-HT.out];exact VF)
      ·exact j5.out k hk (by omega)⟩
    case measure=>simp[intOf]
   have z1:decide (t<0)=false:=decide_eq_false VF;by_cases yt:(x.cells.length:Int)<=t
   ·have z2:decide ((x.cells.length:Int)<=t)=true:=decide_eq_true yt
    go_wp2_with fail
    go_roundw
    case rel=>
     exact⟨trivial,_,m,rfl,by go_num,by omega,fun k hk h=>by
      by_cases e:k=m
      ·subst e;rw[<-YS.out];exact .inr (by rw[<-HT.out];exact yt)
      ·exact j5.out k hk (by omega)⟩
    case measure=>simp[intOf]
   have z2:decide ((x.cells.length:Int)<=t)=false:=decide_eq_false yt;obtain⟨tn,rfl⟩:∃tn:Nat,t=(tn:Int):=⟨t.toNat,by omega⟩;have ri:tn<x.cells.length:=by omega
   have SI:=Dl.out tn FE.out HPO.out HT.out.symm ri;have VL:ah U wr (wr.setCell ⟨g,m*3+2,none⟩ (.int .i64 tn)):=(ah.refl _ _).setCell (.inl (HC.out.jC g rfl)) _;have Gj:(wr.setCell ⟨g,m*3+2,none⟩ (.int .i64 tn)).ownsRow 0 283 3 (.slice (some ⟨g,0,none⟩) ls.length cc) ls.length (eM (ls.set m (⟨x.leaf,x.cells,tn⟩,⟨qA,x.cells.length,qc⟩))):=by
    have h9:=(aed HC.out.row (m*3+2) (.int .i64 tn)).1;rw[Ig ls m hm tn,<-YS.out]at h9;exact h9
   have MG:∀y∈ls.set m ((⟨x.leaf,x.cells,tn⟩:Lv),(⟨qA,x.cells.length,qc⟩:Rw)),∃z∈ls,z.2=y.2/\z.1.cells=y.1.cells:=fun y hy=>by
    rcases List.mem_or_eq_of_mem_set hy with hy|rfl
    ·exact⟨y,hy,rfl,rfl⟩
    ·exact⟨ls[m],abw hm,by rw[<-YS.out],by rw[<-YS.out]⟩
   have cW:(ls.set m ((⟨x.leaf,x.cells,tn⟩:Lv),(⟨qA,x.cells.length,qc⟩:Rw))).take (m+1)=ls.take m++[((⟨x.leaf,x.cells,tn⟩:Lv),(⟨qA,x.cells.length,qc⟩:Rw))]:=by
    rw[List.take_succ_eq_append_getElem (by rw[aem];exact hm),List.take_set_of_le (AS m),List.getElem_set_self]
   have AF:(ls.set m ((⟨x.leaf,x.cells,tn⟩:Lv),(⟨qA,x.cells.length,qc⟩:Rw)))[m]? =some ((⟨x.leaf,x.cells,tn⟩:Lv),(⟨qA,x.cells.length,qc⟩:Rw)):=by rw[List.getElem?_set_self hm]
   have SA:lh p S σ c root R (wr.setCell ⟨g,m*3+2,none⟩ (.int .i64 tn)) U (.slice (some ⟨g,0,none⟩) ls.length cc) (ls.set m (⟨x.leaf,x.cells,tn⟩,⟨qA,x.cells.length,qc⟩)):=
    HC.out.renew hp VL (fun _ h=>h) (aj.refl _ _) (fun b hb=>aaf (HC.out.lt b hb) VL.size) (HC.out.top.zf (Ne.symm hgc) _) (by rw[aem];exact Gj) HC.out.jC (fun y hy=> .inl (MG y hy))
   have rh:o.isSome=true:=by
    cases o with
    | some i=>rfl
    | none=>
     rcases SI with⟨-,-,mG⟩|⟨-,d',ce,L',i2,yZ,-,-,-,mG⟩
     ·have h9:(ls.take m).map adx++[(⟨x.leaf,x.cells,tn⟩:Lv)]=[]:=mG
      simp at h9
     ·have h9:(ls.take m).map adx++(⟨x.leaf,x.cells,tn⟩:Lv)::yZ=[]:=mG
      simp at h9
   have HC7:=sh SA;have HO7:=sh VL;rcases SI with⟨IF,Tl,mG⟩|⟨IF,d',ce,L',i2,yZ,uS,km,El,mG⟩
   ·rw[IF]at c0
    have lL:(ls.set m ((⟨x.leaf,x.cells,tn⟩:Lv),(⟨qA,x.cells.length,qc⟩:Rw))).map adx=(ls.take m).map adx++[⟨x.leaf,x.cells,tn⟩]:=by
     have hle:ls.length<=m+1:=by
      have:=congrArg List.length Tl;simp at this;omega
     rw[<-List.take_of_length_le (l:=ls.set m ((⟨x.leaf,x.cells,tn⟩:Lv),(⟨qA,x.cells.length,qc⟩:Rw))) (i:=m+1) (by rw[aem];exact hle),cW,abH];rfl
    have HE:=sh (show gk p S σ c root R L wr U o (wr.setCell ⟨g,m*3+2,none⟩ (.int .i64 tn)) from ⟨U,⟨_,_,SA,by rw[lL];exact mG⟩,VL,aj.refl _ _,fun _ h=>h⟩);have Uq:=sh rh;clear IF Tl mG lL SA VL Gj MG cW AF rh;go_wp2_with fail
    go_ret2
    exact⟨by rw[Uq.out];rfl,HE.out⟩
   ·rw[IF]at c0
    have ho8:ah U wr ((wr.setCell ⟨g,m*3+2,none⟩ (.int .i64 tn)).setCell ⟨c,2,none⟩ (.slice (some ⟨g,0,none⟩) (m+1) cc)):=VL.setCell (.inl HC.out.mem) _;have hc8:lh p S σ c root R ((wr.setCell ⟨g,m*3+2,none⟩ (.int .i64 tn)).setCell ⟨c,2,none⟩ (.slice (some ⟨g,0,none⟩) (m+1) cc)) U (.slice (some ⟨g,0,none⟩) (m+1) cc) (ls.take m++[((⟨x.leaf,x.cells,tn⟩:Lv),(⟨qA,x.cells.length,qc⟩:Rw))]):=by
     have aaK:ah U (wr.setCell ⟨g,m*3+2,none⟩ (.int .i64 tn)) ((wr.setCell ⟨g,m*3+2,none⟩ (.int .i64 tn)).setCell ⟨c,2,none⟩ (.slice (some ⟨g,0,none⟩) (m+1) cc)):=(ah.refl _ _).setCell (.inl SA.mem) _;have CW:(ls.take m++[((⟨x.leaf,x.cells,tn⟩:Lv),(⟨qA,x.cells.length,qc⟩:Rw))]).length=m+1:=by rw[BY,abv];simp;omega
     refine SA.renew hp aaK (fun _ h=>h) (aj.refl _ _) (fun b hb=>aaf (SA.lt b hb) aaK.size) (SA.top.put 2 _) ?_ (fun g' uT=>HC.out.jC g' uT) (fun y hy=> .inl ⟨y,?_,rfl,rfl⟩)
     ·rw[CW]
      refine NF (((ah.refl [c] _).setCell (p:=⟨c,2,none⟩) (.inl (by simp)) _).own Gj (fun g' uT IG=> ?_)) (by omega) ?_
      ·have e:g=g':=by simpa[aaU]using uT
       rw[By]at IG;omega
      ·rw[DO _ _ (by rw[aem];omega),cW]
     ·rw[<-cW]at hy
      exact List.mem_of_mem_take hy
    have hlp:(ls.take m++[((⟨x.leaf,x.cells,tn⟩:Lv),(⟨qA,x.cells.length,qc⟩:Rw))]).map adx=(ls.take m).map adx++[⟨x.leaf,x.cells,tn⟩]:=by rw[abH];rfl
    have SW:(ls.take m++[((⟨x.leaf,x.cells,tn⟩:Lv),(⟨qA,x.cells.length,qc⟩:Rw))]).length=((ls.take m).map adx).length+1:=by simp
    have zr:=sh (FW hp hc8 (KB.out _) (by simp) km (by rw[SW];exact El));obtain⟨b8,o8,Sw,-,-,-,-,-,q4⟩:=(hc8.cells _ (List.mem_append_right _ (By.2 rfl))).at tn ri;simp only at Sw q4;subst Sw;have ZL:(x.cells[tn]'ri).child=ce.child:=by
     rw[aaG ri]at uS;injection uS with uS;rw[uS]
    rw[ZL]at q4;have y5:(tn:Int)<(x.cells.length:Int):=by omega
    have y6:(0:Int)<=(tn:Int):=by omega
    have y7:(m:Int)+1<=(cc:Int):=by
     have:=Rp HC.out.row;omega
    have pM:=sh mG;have T9:=sh hlp;have HO8:=sh ho8;have Uq:=sh rh;clear IF uS km El mG SA hc8 ho8 VL Gj MG cW AF rh hlp SW ZL;go_wp2_with fail
    refine zr.out.mono ?_;rintro e w1 ⟨rfl,Gm⟩;have HE:=sh (show gk p S σ c root R L wr U o w1 from (oq.from HO8.out Gm).post (by rw[T9.out,OF];exact pM.out));clear Gm;go_wp2_with fail
    go_ret2
    exact⟨by rw[Uq.out];rfl,HE.out⟩
end Go.Proofs.YtjbcbnemdhbhbaaGreatDoor
