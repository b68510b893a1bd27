import Derived.Test.YtjbcbnemdhbhbaaGreatDoorA32
import Derived.Test.YtjbcbnemdhbhbaaGreatDoorA33
import Derived.Test.YtjbcbnemdhbhbaaGreatDoorA30
import Derived.Test.YtjbcbnemdhbhbaaGreatDoorA50
import Derived.Test.YtjbcbnemdhbhbaaGreatDoorA27
import Derived.Test.YtjbcbnemdhbhbaaGreatDoorA26
import Derived.Test.YtjbcbnemdhbhbaaGreatDoorA8
set_option maxRecDepth 100000
set_option linter.unusedVariables false
set_option linter.unusedSimpArgs false
set_option maxHeartbeats 40000000
open Array.mk renaming injEq→agH
open Exists renaming intro→acA
open Go renaming World→AI,maxLen→abj
open Go.Instr renaming lookup→acR
open Go.Lib renaming hid→sh
open Go.RowKit renaming Below→IT
open Go.RowKit.Below renaming refl→BY
open Go.Value renaming int→acs
open Go.Value.int renaming injEq→ags
open List renaming flatMap_append→aej,flatMap_cons→abH,length_append→AT,length_cons→abv,length_map→IS,length_pos_iff→acy,mem_append→By,mem_cons→OF,mem_cons_of_mem→abW,mem_flatMap→abr,mem_map→abK,mem_map_of_mem→abO,mem_singleton→IN,nodup_append→aag,takeWhile_cons→aeD
open List.Pairwise renaming sublist→afl
open List.Sublist renaming refl→agy
open List.cons renaming injEq→adx
open Nat renaming le_add_right→agK,le_refl→AS,le_trans→abw,mul_le_mul_left→agV,mul_le_mul_right→acV,pow_succ→agl,zero_le→abi
namespace Go.Proofs.YtjbcbnemdhbhbaaGreatDoor
open Go.Proofs.Tryz
open Go.RowKit
theorem jM.three{p:ay}{S:List Nat}{σ :ag}{k c root:Nat}{P:List Nat}{L:List En}{key:ByteArray}{w:AI}{e:Ending}{w':AI}(h:jM p S σ k c root P L key w e w'):
  (∃r:Nat,e= .returned (.tuple #[.int .i64 r,.bool true,.int .i64 0])/\Hid ((∃x∈L,x.cell.key=key)/\∃(P':List Nat) (σ':ag) (S':List Nat) (k':Nat),Tr.dt σ' r P' (Tr.eM key L)/\Tr.aE 2 σ P σ' P'/\p.At w' S' σ' k'/\k<=k'+c/\ah S w w'/\aj w S S'))
  \/ (e= .returned (.tuple #[.int .i64 0,.bool false,.int .i64 9])/\Hid (p.F/\∃(σ':ag) (S':List Nat),p.At w' S' σ' 0/\ah S w w'/\aj w S S'))
  \/ (e= .returned (.tuple #[.int .i64 root,.bool false,.int .i64 0])/\Hid ((∀x∈L,x.cell.key≠key)/\IT w.heap.size w w')):=by
 rcases h with⟨hx,a,b,rfl,h⟩|⟨gd,rfl,hb⟩
 ·rcases h with⟨r,P',σ',S',k',e5,h1⟩|⟨hF,e5,σ',S',h1⟩
  ·injection e5 with e5
   injection e5 with e5;simp only[agH,adx,ags,true_and,and_true]at e5;obtain⟨rfl,rfl⟩:=e5;exact .inl ⟨r,rfl,sh ⟨hx,P',σ',S',k',h1⟩⟩
  ·injection e5 with e5
   injection e5 with e5;simp only[agH,adx,ags,true_and,and_true]at e5;obtain⟨rfl,rfl⟩:=e5;exact .inr (.inl ⟨rfl,sh ⟨hF,σ',S',h1⟩⟩)
 ·exact .inr (.inr ⟨rfl,sh ⟨gd,hb⟩⟩)
def sL (E:Kv) (F:Prop) (S:List Nat) (σ :ag) (k c:Nat) (Fo:Forest) (nr:Nat) (name key:ByteArray) (w:AI) (e:Ending) (w':AI):Prop:=
 (e= .returned (.tuple #[.bool true,.int .i64 0])/\(∃x∈(Fo.tr name).L,x.cell.key=key)/\∃(t:Tn) (σ':ag) (S':List Nat) (k':Nat),t.L=Tr.eM key (Fo.tr name).L/\Tr.aE 2 σ (Fo.tr name).P σ' t.P/\Wr E F w' S' σ' k' (Fo.put name t) (nr+1)/\k<=k'+c/\ah (E.rm::S) w w'/\aj w S S')
 \/ (e= .returned (.tuple #[.bool false,.int .i64 0])/\(∀x∈(Fo.tr name).L,x.cell.key≠key)/\IT w.heap.size w w')
 \/ (F/\e= .returned (.tuple #[.bool false,.int .i64 9])/\∃(σ':ag) (S':List Nat),(gA { E with over:=true } F).At w' S' σ' 0/\ah S w w'/\aj w S S')
theorem Oz{E:Kv}(hE:E.Ok){F:Prop}{w:AI}{S:List Nat}{σ :ag}{k nr:Nat}{Fo:Forest}(h:Wr E F w S σ k Fo nr)(nk:nr<=100000)(name key:ByteArray)(hn:dc name)
  {c:Nat} (Q8:Tr.ej σ c (Fo.tr name).root (Fo.tr name).P (Fo.tr name).L) (hk:F\/c<=k):
  Calls prog 81 #[.pointer (some ⟨E.t,0,none⟩),.string name,.string key] w (sL E F S σ k c Fo nr name key w):=by
 obtain⟨x,f,dm,lv,fv,hc⟩:=h.cells;have HM:=sh (vq hc (by rw[show (aO E x f dm lv fv)[13]? =some (.bool E.over) from rfl,h.open_]) (by rw[show (aO E x f dm lv fv)[12]? =some (.int .i64 E.bO) from rfl,h.first]) name hn);have HR:=sh (qL hE h name hn);have MC:(Fo.tr name).P.Nodup:=by
  by_cases hc:name∈Fo.NS
  ·obtain⟨a,b,-,-,-,hp⟩:=h.ok.split hc
   exact(aag.1 (hp.nodup_iff.1 h.ok.nodup)).1
  ·rw[h.ok.out name hc];exact List.nodup_nil
 have hS:=(bK hE F).old h.at_;have HP:=sh fun(W:AI) (hb:IT w.heap.size w W)=>(Ge (bK hE F) ((bK hE F).below h.at_ hb) (Fo.tr name).root Q8 MC key hk).mono fun e w' h=>h.three;have HTE:=sh fun(W:AI)=>mZ E.t W;have HW:=sh h;have HS:=sh hS;have lt:=hc.lt;clear h hc MC hS Q8 hk;go_enter func81,ntmps81
 go_wp2_with fail
 refine HM.out.mono ?_;rintro e w1 ⟨rfl,rfl⟩;go_wp2_with fail
 refine HR.out.mono ?_;rintro e w2 ⟨rfl,aC⟩;have bm:=sh aC;clear aC;go_wp2_with fail
 refine(HP.out _ bm.out).mono ?_;have HB:=sh bm.out;rintro e w3 (⟨root,rfl,nE⟩|⟨rfl,nE⟩|⟨rfl,nE⟩)
 ·obtain⟨hx,P',σ',S',k',sY,jJ,cG,kz,bB,bU⟩:=nE.out
  obtain⟨nr0,afz,Dg⟩:=HW.out.roots;have qv:ah S w w3:=(ah.af HB.out S).trans bB;have oj:aj w S S':=bU.mono HB.out.size;have EI:=Dg.off qv HW.out.rm;obtain⟨w4,bZ,MW,zQ⟩:=(EI.off ((ah.refl [] w3).drew) (by simp)).update underlying9 underlying101 (by unfold abj;omega) (s:=name) (by have:=hn.2;unfold abj;omega) (.int .i64 (root:Nat));obtain⟨w5,aa6,MX,SP⟩:=EI.update underlying9 underlying101 (by unfold abj;omega) (s:=name) (by have:=hn.2;unfold abj;omega) (.int .i64 (root:Nat));obtain⟨x3,f3,Gg,KG,xc,GU,Gm,kU,GP,cO⟩:=cG;have q11:w3.cell? ⟨E.t,11,none⟩=some (.map (some E.rm)):=kU.cells.cell 11;have XC:=kU.cells.lt;have uz:E.rm∉S':=fun hs=>by
   rcases oj _ hs with h1|h1
   ·exact HW.out.rm h1
   ·have:=Dg.lt;omega
  have uA:∀j,(if j=name then some (acs .i64 (root:Nat))else dC Fo.R j)=dC (Fo.put name ⟨root,P',Tr.eM key (Fo.tr name).L⟩).R j:=fun j=>by
   unfold dC Forest.put;simp only;split<;>rfl
  have lS:∀w',SMap prog 9 w' E.rm (nr0+1) (fun j=>if j=name then some (acs .i64 (root:Nat))else dC Fo.R j)->ah [E.rm] w3 w'->sL E F S σ k c Fo nr name key w (.returned (.tuple #[.bool true,.int .i64 0])) w':=fun w' hr ho=>
   .inl ⟨rfl,hx,⟨root,P',Tr.eM key (Fo.tr name).L⟩,σ',S',k',rfl,jJ,
    ⟨(bK hE F).off ⟨x3,f3,Gg,KG,xc,GU,Gm,kU,GP,cO⟩ ho (fun b hb hs=>by rw[IN]at hs;subst hs;exact uz hb),⟨nr0+1,by omega,by rw[<-(funext uA:_=dC _)];exact hr⟩,uz,HW.out.ok.put hn sY jJ.toMoved,by
     rw[HW.out.root];unfold Forest.put Forest.dF;split<;>rfl,HW.out.open_,HW.out.first⟩,kz,(qv.mono (fun b hb=> .inl (by simp[hb]))).trans (ho.mono (fun b hb=> .inl (by simp at hb;simp[hb]))),oj⟩
  have WW:=sh (lS w4 MW ((ah.refl [E.rm] w3).drew.grown zQ (fun g hg=> .inl (by simp at hg;simp[hg]))));have HE5:=sh (lS w5 MX ((ah.refl [E.rm] w3).grown SP (fun g hg=> .inl (by simp at hg;simp[hg]))));clear lS uA Dg EI MW zQ MX SP kU GP cO sY jJ kz bB bU qv oj nE hx uz;go_wp2_with fail
  refine(HTE.out _).mono ?_;rintro e w6 ⟨rfl,rfl⟩;go_wp2_with fail
  go_ret2
  first|exact WW.out|exact HE5.out
 ·obtain⟨hF,σ',S',cG,bB,bU⟩:=nE.out
  obtain⟨x3,f3,Gg,KG,xc,GU,Gm,kU,GP,cO⟩:=cG;have qv:ah S w w3:=(ah.af HB.out S).trans bB;have oj:aj w S S':=bU.mono HB.out.size;have XC:=kU.cells.lt;have oY:Bk (w3.setCell ⟨E.t,13,none⟩ (.bool true)) E.t 103 (aO { E with over:=true } x3 f3 Gg GU Gm):=by
   have:=kU.cells.put 13 (.bool true);exact this
  have ht:E.t∈S':=by rw[kU.blocks];simp[aB]
  have bX:=sh (CQ kU.cells 9 (by decide) ⟨_,rfl⟩);have HE:=sh (show sL E F S σ k c Fo nr name key w (.returned (.tuple #[.bool false,.int .i64 9])) (w3.setCell ⟨E.t,13,none⟩ (.bool true)) from
   .inr (.inr ⟨hF,rfl,σ',S',⟨x3,f3,Gg,KG,xc,GU,Gm,kU.other oY ((ah.refl [E.t] w3).setCell (p:=⟨E.t,13,none⟩) (.inl (by simp)) _) ⟨rfl,rfl,rfl,rfl,rfl,rfl,rfl,rfl,rfl,rfl,rfl,rfl,rfl,rfl,rfl,rfl,rfl,rfl,rfl⟩,GP,cO.other ⟨rfl,rfl,rfl,rfl,rfl,rfl⟩⟩,qv.setCell (p:=⟨E.t,13,none⟩) (by
    rcases oj _ ht with h1|h1
    ·exact .inl h1
    ·exact .inr h1) _,oj⟩))
  clear oY ht kU GP cO bB bU qv oj nE;go_wp2_with fail
  refine bX.out.mono ?_;rintro e w4 ⟨rfl,rfl⟩;go_wp2_with fail
  go_ret2
  exact HE.out
 ·obtain⟨gd,aN⟩:=nE.out
  have HE:=sh (show sL E F S σ k c Fo nr name key w (.returned (.tuple #[.bool false,.int .i64 0])) w3 from .inr (.inl ⟨rfl,gd,HB.out.trans (aN.mono HB.out.size)⟩));clear gd aN nE;go_wp2_with fail
  refine(HTE.out _).mono ?_;rintro e w6 ⟨rfl,rfl⟩;go_wp2_with fail
  go_ret2
  exact HE.out
namespace Tr
def need (n:Nat):Nat:=2*Nat.log2 n+4
theorem BZ{Q:List Ce->List Nat->List En->Prop}{m:Nat}{σ :ag}{leaf:Bool}:∀(ks:List Kd),(∀k∈ks,m<=k.L.length)->m*ks.length<=(ks.flatMap (·.L)).length
 | [],_=>by simp
 | k::ks,h=>by
  have h1:=h k (by simp);have h2:=BZ (Q:=Q) (σ := σ) (leaf:=leaf) ks (fun x hx=>h x (by simp[hx]));rw[abH,AT,abv,Nat.mul_succ];omega
theorem aD.many{σ :ag}:∀ {d no:Nat} {P:List Nat} {L:List En},aD σ d no P L->2 ^ d<=L.length
 | 0,no,P,L,h=>by
  obtain⟨cs,P',-,-,-,-,-,-,h,-⟩:=h;cases L with
  | nil=>exact absurd rfl h
  | cons a t=>simp
 | d+1,no,P,L,h=>by
  obtain⟨cs,P',-,-,-,-,⟨ks,h1,h2,h3,h4,h5,h6⟩,-,-,h7⟩:=h;have hk:∀k∈ks,2 ^ d<=k.L.length:=fun k hk=>aD.many (h6 k hk).2;have h8:=h7 rfl;rw[h1,IS]at h8;have h9:=BZ (Q:=fun _ _ _=>True) (σ := σ) (leaf:=true) ks hk;rw[h3,agl];exact abw (agV _ h8) h9
end Tr
theorem ji{α :Type}[DecidableEq α]:∀(l m:List α),l.Nodup->(∀x∈l,x∈m)->l.length<=m.length
 | [],m,_,_=>abi _
 | a::l,m,hn,h=>by
  obtain⟨h1,h2⟩:=List.nodup_cons.1 hn;have ha:=h a (by simp);have h3:=ji l (m.erase a) h2 (fun x hx=>(List.mem_erase_of_ne (fun e=>h1 (by rw[<-e];exact hx))).2 (h x (by simp[hx])));rw[List.length_erase_of_mem ha]at h3;have:=List.length_pos_of_mem ha;rw[abv];omega
theorem Tr.jt{L:List En}(h:Tr.bj L):(L.map (·.cell.key)).Nodup:=by
 unfold List.Nodup;rw[List.pairwise_map];refine h.imp fun oU e=> ?_;rw[e,Nd.lt_irrefl]at oU;cases oU
theorem Forest.Ok.qy{F:Forest}{σ :ag}(h:F.Ok σ):∀k∈F.main.L.map (·.cell.key),k∈F.NS:=by
 intro k hk;obtain⟨e,he,rfl⟩:=abK.1 hk;cases hR:F.R e.cell.key with
 | some r=>exact(h.law _ r hR).2
 | none=>
  by_cases hm:e.cell.key∈F.NS
  ·exact hm
  ·have h1:=h.wC _ hR
   rw[h.out _ hm]at h1;have h2:bH F.main.L e.cell.key (ai ⟨e.val.toArray⟩ 0 4):= .inl ⟨e,he,rfl,rfl⟩;have h3:=bH.L3 h.main.rising h2 h1;have h4:=(h.names e he).2.1;have h5:Tn.zero.root=0:=rfl;omega
theorem Forest.Ok.B8{F:Forest}{σ :ag}(h:F.Ok σ):F.main.L.length<=F.NS.length:=by
 have h1:=ji _ F.NS (Tr.jt h.main.rising) h.qy
 rwa [IS]at h1
theorem Ju(r:Nat)(h:r<512):ai ⟨(Be.low r 4).toArray⟩ 0 4=r:=by
 unfold ai;have:((Be.low r 4).toArray.toList.drop 0).take 4=Be.low r 4:=by
  rw[List.drop_zero,List.take_of_length_le (by rw[Be.au];exact AS 4)]
 show Be.num (((Be.low r 4).toArray.toList.drop 0).take 4)=r;rw[this];exact Be.cg r 4 (by omega)
theorem Kv.Ok.Fx{E:Kv}(h:E.Ok)(r:Int):Kv.Ok { E with root:=r }:=⟨h.txn,h.J1,h.on,h.steps,h.lim,h.zr,h.upto⟩
structure Told (E:Kv) (F:Prop) (w:AI) (S:List Nat) (k:Nat) (Fo:Forest) (ns:List ByteArray) (c:Nat) (j:Nat) (w':AI) (G:Forest) (σ':ag) (S':List Nat) (k':Nat):Prop where
 tr:G.tr=Fo.tr
 NS:G.NS=Fo.NS
 R:∀n,G.R n=if Forest.known (ns.take j) n=true then none else Fo.R n
 len:G.main.L.length<=Fo.main.L.length+j
 ok:G.Ok σ'
 at_:(gA { E with root:=G.main.root } F).At w' S' σ' k'
 cost:k<=k'+j*c
 off:ah S w w'
 fresh:aj w S S'
def oG (E:Kv) (F:Prop) (S:List Nat) (k q:Nat) (Fo:Forest) (w:AI) (e:Ending) (w':AI):Prop:=
 (e= .returned (.int .i64 0)/\∃(G:Forest) (σ':ag) (S':List Nat) (k':Nat),G.tr=Fo.tr/\G.NS=Fo.NS/\(∀n,G.R n=none)/\G.Ok σ'/\(gA { E with root:=G.main.root } F).At w' S' σ' k'/\k<=k'+Fo.NS.length*q/\ah S w w'/\aj w S S')
 \/ (F/\e= .returned (.int .i64 9)/\∃(r:Int) (σ':ag) (S':List Nat),(gA { E with root:=r } F).At w' S' σ' 0/\ah S w w'/\aj w S S')
theorem FJ{G:Forest}{σ σ':ag}(h:G.Ok σ){name:ByteArray}{r root:Nat}{P':List Nat}{y:En}(hr:G.R name=some r)(VN:r≠0)(Re:y.cell.key=name)(hyv:y.val=Be.low r 4)(ht:Tr.dt σ' root P' (Tr.dB name y G.main.L))(hm:Tr.Moved σ G.main.P σ' P'):
  (G.tell ⟨root,P',Tr.dB name y G.main.L⟩ name).Ok σ':=by
 obtain⟨e1,e2⟩:=h.law name r hr;have hs:r<512:=by rw[e1];exact(h.each name).small
 have Ja:ai ⟨y.val.toArray⟩ 0 4=r:=by rw[hyv];exact Ju r hs
 have EH:=h.main.rising;refine h.tell (t:=⟨root,P',Tr.dB name y G.main.L⟩) ht hm (fun e he=> ?_) name ?_ (fun m r' om I9=> ?_)
 ·rcases(Tr.ta EH Re e).1 he with rfl|⟨he,-⟩
  ·exact⟨by rw[hyv,Be.au],by rw[Ja];omega,by rw[Ja];exact hs⟩
  ·exact h.names e he
 ·rw[bH.put EH Re,if_pos rfl,Ja,e1]
 ·rw[bH.put EH Re,if_neg om]
  exact I9
theorem qK{E:Kv}{F:Prop}{w1 wr w4:AI}{S Sj S':List Nat}{k kj k' q j:Nat}{Fo G:Forest}{ns:List ByteArray}{σj σ':ag}(hT:Told E F w1 S k Fo ns q j wr G σj Sj kj){nm:ByteArray}(p2:ns.take (j+1)=ns.take j++[nm]){t:Tn}(hG:(G.tell t nm).Ok σ')
  (hlen:t.L.length<=G.main.L.length+1) (cG:(gA { E with root:=(G.main.root:Nat) } F).At w4 S' σ' k') (hk:kj<=k'+q) (bB:ah Sj wr w4) (bU:aj wr Sj S'):
  ∃G σ' S' k',Told E F w1 S k Fo ns q (j+1) (w4.setCell ⟨E.t,3,none⟩ (.int .i64 (t.root:Nat))) G σ' S' k':=by
 obtain⟨x4,f4,Dc,Jt,Hz,Dp,Dd,kL,Wo,dO⟩:=cG;have iU:Bk (w4.setCell ⟨E.t,3,none⟩ (.int .i64 (t.root:Nat))) E.t 103 (aO { E with root:=(t.root:Nat) } x4 f4 Dc Dp Dd):=by
  have:=kL.cells.put 3 (.int .i64 (t.root:Nat));exact this
 have KD:=bf.other (E':={ E with root:=(t.root:Nat) }) kL iU ((ah.refl [E.t] w4).setCell (p:=⟨E.t,3,none⟩) (.inl (by simp)) _) ⟨rfl,rfl,rfl,rfl,rfl,rfl,rfl,rfl,rfl,rfl,rfl,rfl,rfl,rfl,rfl,rfl,rfl,rfl,rfl⟩;have Wh:E.t∈S':=by rw[kL.blocks];simp[aB]
 have iD:ah Sj wr (w4.setCell ⟨E.t,3,none⟩ (.int .i64 (t.root:Nat))):=bB.setCell (p:=⟨E.t,3,none⟩) (bU _ Wh) _;refine⟨G.tell t nm,σ',S',k',hT.tr,hT.NS,fun m=> ?_,?_,hG,⟨x4,f4,Dc,Jt,Hz,Dp,Dd,KD,Wo,dO.other ⟨rfl,rfl,rfl,rfl,rfl,rfl⟩⟩,?_,hT.off.then iD hT.fresh,hT.fresh.trans bU hT.off.size⟩
 ·show (if m=nm then none else G.R m)=_
  by_cases om:m=nm
  ·rw[if_pos om,if_pos (Forest.eC.2 (by rw[p2,om];simp))]
  ·rw[if_neg om,hT.R m]
   by_cases Pk:m∈ns.take j
   ·rw[if_pos (Forest.eC.2 Pk),if_pos (Forest.eC.2 (by rw[p2];simp[Pk]))]
   ·rw[if_neg (fun h=>Pk (Forest.eC.1 h)),if_neg (fun h=>by
     have:=Forest.eC.1 h;rw[p2,By,IN]at this;exact this.elim Pk om)]
 ·have h2:=hT.len
  show t.L.length<=_;omega
 ·have h1:=hT.cost
  rw[Nat.succ_mul];omega
theorem Js{E:Kv}(hE:E.Ok){F:Prop}{w:AI}{S:List Nat}{σ :ag}{k nr:Nat}{Fo:Forest}(h:Wr E F w S σ k Fo nr)(nk:nr<=1000000){q:Nat}(ry:∀(τ :ag) (G:Forest),G.Ok τ ->G.NS=Fo.NS->Tr.ej τ q G.main.root G.main.P G.main.L)(hk:F\/Fo.NS.length*q<=k):
  Calls prog 109 #[.pointer (some ⟨E.t,0,none⟩)] w (oG E F S k q Fo w):=by
 obtain⟨x,f,dm,lv,fv,hc⟩:=h.cells;obtain⟨n0,GD,hm⟩:=h.roots;have Da:w.cell? ⟨E.t,11,none⟩=some (.map (some E.rm)):=hc.cell 11;have lt:=hc.lt;have OV:=sh fun(W:AI)=>abA E.rm W;have wX:=sh (Rv hm (by omega));have hS:=(bK hE F).old h.at_;have HW:=sh h;have HS:=sh hS;have HE:=sh hE;have HKK:=sh hk;have HM:=sh hm;clear h hc hm hS hE hk;go_enter func109,ntmps109
 go_wp2_with fail
 refine(OV.out _).mono ?_;rintro e w0 ⟨rfl,rfl⟩;go_wp2_with fail
 refine wX.out.mono ?_;rintro e w1 ⟨v,ns,rfl,bI,jB,hlen,aq,ar⟩;have Zy:IT w.heap.size w w1:=((BY _ w).alloc (AS _) (.cells #[.map (some E.rm)] 101)).trans (ar.mono (by simp));obtain⟨A,c,rfl,GF,cI,hnl,fJ,nh⟩:=bg aq;clear hnl;have bh:=sh Zy;have vO:=sh fJ;have FY:=sh (show ∀a,A=some a->a.block∉S from fun a ha hs=>by have:=(nh a ha).1;have:=HS.out _ hs;omega);have PS:=sh jB;have pK:=sh bI;have oq:∀n∈ns,∃r,Fo.R n=some r:=fun n hn=>by
  have:=(PS.out n).1 hn;unfold dC at this;cases hr:Fo.R n with
  | none=>rw[hr]at this;cases this
  | some r=>exact⟨r,rfl⟩
 have pR:ns.length<=Fo.NS.length:=ji ns Fo.NS bI (fun n hn=>by obtain⟨r,hr⟩:=oq n hn;exact(HW.out.ok.law n r hr).2);have ad2:=sh oq;have C7:=sh pR;have hnl:ns.length<=1000000:=by omega
 have si:c<=9223372036854775807:=by unfold abj at cI;omega
 have HKQ:=sh (show F\/Fo.NS.length*q<=k from HKK.out);have yC:=sh ry;have h0:Hid (∃G σ' S' k',Told E F w1 S k Fo ns q 0 w1 G σ' S' k'):=⟨Fo,σ,S,k,rfl,rfl,fun n=>by simp[Forest.known],agK _ _,HW.out.ok,by
  have:=(HW.out.below HE.out bh.out).at_;have hr:({ E with root:=(Fo.main.root:Int) }:Kv)=E:=by rw[<-HW.out.root]
  rw[hr];exact this,by omega,ah.refl S w1,aj.refl _ _⟩
 clear aq ar Zy fJ nh jB bI hlen oq pR ry Da HKK wX;go_wp2_with fail
 go_loopw [16] (fun i wr=>∃j:Nat,i= .int .i64 j/\j<=ns.length/\Hid (∃G σ' S' k',Told E F w1 S k Fo ns q j wr G σ' S' k')) (fun i _=>ns.length-(intOf i).toNat)
 case atStart=>exact⟨0,rfl,abi _,h0⟩
 case round=>
  obtain⟨j,rfl,hj,hI⟩:=hrel;obtain⟨G,σj,Sj,kj,hT⟩:=hI.out;by_cases aH:j<ns.length
  ·have z1:decide ((j:Int)<(ns.length:Int))=true:=decide_eq_true (by omega)
   have bF:ah S w wr:=(ah.af bh.out S).trans hT.off;obtain⟨nm,sr⟩:∃nm,nm=ns[j]:=⟨_,rfl⟩;have ME:nm∈ns:=by rw[sr];exact List.getElem_mem aH
   obtain⟨r,hr⟩:=ad2.out nm ME;have cW:ns.take (j+1)=ns.take j++[nm]:=by rw[sr];exact List.take_succ_eq_append_getElem aH
   have qu:nm∉ns.take j:=fun hm=>by
    have h1:(ns.take (j+1)).Nodup:=List.Nodup.sublist (List.take_sublist _ _) pK.out;rw[cW]at h1;exact(aag.1 h1).2.2 nm hm nm (by simp) rfl
   have Xf:G.R nm=some r:=by rw[hT.R nm,if_neg (fun h=>qu (Forest.eC.1 h))];exact hr
   obtain⟨V6,dw⟩:=hT.ok.law nm r Xf;have hrs:r<512:=by rw[V6];exact(hT.ok.each nm).small
   have hnv:=hT.ok.valid nm dw;obtain⟨b,o,rfl,hb,gb⟩:=(vO.out.off hT.off FY.out) j (.string nm) (by rw[sr];simp[aH]);obtain⟨x3,f3,Gg,KG,xc,GU,Gm,kU,GP,cO⟩:=hT.at_;have q11:wr.cell? ⟨E.t,11,none⟩=some (.map (some E.rm)):=kU.cells.cell 11;have q3:wr.cell? ⟨E.t,3,none⟩=some (.int .i64 (G.main.root:Nat)):=kU.cells.cell 3;have XC:E.t<wr.heap.size:=kU.cells.lt;have Mv:(acR 101 (.map (some E.rm)) (.string nm) false).run prog wr= .ok (.int .i64 r) wr:=by
    have h1:=(HM.out.off bF HW.out.rm).look underlying9 underlying101 (z:= .int .i64 0) (by kernel_rfl) (s:=nm) (by have:=hnv.2;unfold abj;omega);unfold dC at h1;rw[hr]at h1;exact h1
   by_cases iT:r=0
   ·have alJ:(acR 101 (.map (some E.rm)) (.string nm) false).run prog wr= .ok (.int .i64 0) wr:=by rw[Mv,iT];rfl
    have hjn:j+1<=Fo.NS.length:=by have:=C7.out;omega
    have zS:F\/q<=kj:=HKQ.out.imp id (fun h9=>by
     have h1:=hT.cost;have h2:=acV q hjn;rw[Nat.succ_mul]at h2;omega)
    have wu:=bK (HE.out.Fx (G.main.root:Nat)) F;have MA:=(aag.1 hT.ok.nodup).1;have Bv:Tr.ej σj q G.main.root G.main.P G.main.L:=yC.out _ _ hT.ok hT.NS;have YM:=sh fun(W:AI) (hb:IT wr.heap.size wr W)=>(Ge wu (wu.below hT.at_ hb) G.main.root Bv MA nm zS).mono fun e w' h=>h.three;have HT:=sh hT;have HSJ:=sh (wu.old hT.at_);have HAB:=sh fun(W:AI) (hb:IT wr.heap.size wr W)=>wu.below hT.at_ hb;rw[iT]at Xf;have m9:=sh (show ns.take (j+1)=ns.take j++[nm]/\G.R nm=some 0 from ⟨cW,Xf⟩);clear hT hI h0 kU GP cO qu cW Xf V6 dw hnv hr sr ME zS wu MA bF Bv Mv hrs iT;go_wp2_with fail
    first
     | refine(YM.out _ (BY _ _)).mono ?_
     | refine(YM.out _ (BY _ _).drew).mono ?_
    rintro e w4 (⟨root,rfl,KF⟩|⟨rfl,KF⟩|⟨rfl,KF⟩)
    ·obtain⟨hx,P',σ',S',k',sY,jJ,cG,kz,bB,bU⟩:=KF.out
     obtain⟨q34,f34,lt4⟩:w4.cell? ⟨E.t,3,none⟩=some (.int .i64 (G.main.root:Nat))/\w4.frozen? ⟨E.t,3,none⟩=false/\E.t<w4.heap.size:=by
      obtain⟨x4,f4,Dc,Jt,Hz,Dp,Dd,kL,-⟩:=cG;exact⟨kL.cells.cell 3,kL.cells.frozen 3,kL.cells.lt⟩
     have HN:=sh (qK HT.out m9.out.1 (t:=⟨root,P',Tr.eM nm G.main.L⟩) (FI HT.out.ok m9.out.2 sY jJ.toMoved) (abw (Tr.LK _ _) (Nat.le_succ _)) cG kz bB bU);clear hx sY jJ cG kz bB bU KF;go_wp2_with fail
     go_roundw
     case rel=>first|exact⟨j+1,by go_num,by omega,HN⟩|((repeat apply acA);exact⟨⟨j+1,by go_num,by omega,HN⟩,rfl⟩)
     case measure=>simp[intOf];omega
    ·obtain⟨hF,σ',S',cG,bB,bU⟩:=KF.out
     obtain⟨x4,f4,Dc,Jt,Hz,Dp,Dd,kL,Wo,dO⟩:=cG;have q34:w4.cell? ⟨E.t,3,none⟩=some (.int .i64 (G.main.root:Nat)):=kL.cells.cell 3;have f34:=kL.cells.frozen 3;have lt4:E.t<w4.heap.size:=kL.cells.lt;have iU:Bk (w4.setCell ⟨E.t,3,none⟩ (.int .i64 0)) E.t 103 (aO { E with root:=0 } x4 f4 Dc Dp Dd):=by
      have:=kL.cells.put 3 (.int .i64 0);exact this
     have KD:=bf.other (E':={ E with root:=0 }) kL iU ((ah.refl [E.t] w4).setCell (p:=⟨E.t,3,none⟩) (.inl (by simp)) _) ⟨rfl,rfl,rfl,rfl,rfl,rfl,rfl,rfl,rfl,rfl,rfl,rfl,rfl,rfl,rfl,rfl,rfl,rfl,rfl⟩;have Wh:E.t∈S':=by rw[kL.blocks];simp[aB]
     have iD:ah Sj wr (w4.setCell ⟨E.t,3,none⟩ (.int .i64 0)):=bB.setCell (p:=⟨E.t,3,none⟩) (bU _ Wh) _;have bX:=sh (show oG E F S k q Fo w (.returned (.int .i64 9)) (w4.setCell ⟨E.t,3,none⟩ (.int .i64 0)) from
      .inr ⟨hF,rfl,0,σ',S',⟨x4,f4,Dc,Jt,Hz,Dp,Dd,KD,Wo,dO.other ⟨rfl,rfl,rfl,rfl,rfl,rfl⟩⟩,(ah.af bh.out S).trans (HT.out.off.then iD HT.out.fresh),(HT.out.fresh.trans bU HT.out.off.size).mono bh.out.size⟩)
     clear kL Wo dO iU KD Wh iD bB bU KF;go_wp2_with fail
     go_ret
     exact bX.out
    ·obtain⟨gd,bT⟩:=KF.out
     have eE:IT wr.heap.size wr w4:=by
      first
       | exact bT
       | exact(BY _ _).drew.trans (bT.mono (AS _))
     have cG:=HAB.out w4 eE;obtain⟨q34,f34,lt4⟩:w4.cell? ⟨E.t,3,none⟩=some (.int .i64 (G.main.root:Nat))/\w4.frozen? ⟨E.t,3,none⟩=false/\E.t<w4.heap.size:=by
      obtain⟨x4,f4,Dc,Jt,Hz,Dp,Dd,kL,-⟩:=cG;exact⟨kL.cells.cell 3,kL.cells.frozen 3,kL.cells.lt⟩
     have HN:=sh (qK HT.out m9.out.1 (t:=G.main) (JZ HT.out.ok m9.out.2 gd) (Nat.le_succ _) cG (agK _ _) (ah.af eE Sj) (aj.refl _ _));clear gd bT eE cG KF;go_wp2_with fail
     go_roundw
     case rel=>first|exact⟨j+1,by go_num,by omega,HN⟩|((repeat apply acA);exact⟨⟨j+1,by go_num,by omega,HN⟩,rfl⟩)
     case measure=>simp[intOf];omega
   have z2:((r:Int)==0)=false:=by rw[beq_eq_false_iff_ne];omega
   have z3:(r==0)=false:=by rw[beq_eq_false_iff_ne];omega
   have y3:IntKind.u64.wrap (r:Int)=r:=by rw[IntKind.wrap_u64];omega
   obtain⟨s,hs⟩:∃s:ByteArray,s=(⟨#[]⟩:ByteArray)++⟨(Be.low r 4).toArray⟩:=⟨_,rfl⟩;have Wb:s.data.toList=Be.low r 4:=by rw[hs];simp
   have Q9:s.size=4:=by
    have:s.data.toList.length=4:=by rw[Wb,Be.au]
    rw[Array.length_toList]at this;exact this
   have HPF:=sh fun(W:AI)=>(show Calls prog 160 #[.string ⟨#[]⟩,.int .u64 r,.int .i64 4] W (cT s 0 W) from by rw[hs];exact gX ⟨#[]⟩ r 4 W (by show 0<=1000000;omega) (by omega) (by omega) (by omega));have hjn:j+1<=Fo.NS.length:=by have:=C7.out;omega
   have zS:F\/q<=kj:=HKQ.out.imp id (fun h9=>by
    have h1:=hT.cost;have h2:=acV q hjn;rw[Nat.succ_mul]at h2;omega)
   have wu:=bK (HE.out.Fx (G.main.root:Nat)) F;have MA:=(aag.1 hT.ok.nodup).1;have Bv:Tr.ej σj q G.main.root G.main.P G.main.L:=yC.out _ _ hT.ok hT.NS;have hpz:Tr.pieces s.size=0:=by rw[Q9];rfl
   have aaj:F\/q+Tr.pieces s.size<=kj:=by
    rw[hpz];exact zS.imp id (fun h9=>by omega)
   have HPZ:=sh hpz;have HTP:=sh fun(W:AI) (hb:IT wr.heap.size wr W)=>(show Calls prog 48 #[.iface 111 (.agg #[.pointer (some ⟨E.t,0,none⟩)]),.int .i64 (G.main.root:Nat),.string nm,.string s] W (fun e w'=>∃a b:Int,e= .returned (.tuple #[.int .i64 a,.int .i64 b])/\Hid (oH (gA { E with root:=(G.main.root:Nat) } F) Sj σj kj q G.main.P G.main.L nm s W (.returned (.tuple #[.int .i64 a,.int .i64 b])) w')) from
    (G8 wu (wu.below hT.at_ hb) G.main.root Bv MA nm s hnv.1 (by have:=hnv.2;omega) (by omega) aaj).mono fun e w' ⟨y,e1,e2,e3,e4⟩=>by
     obtain⟨a,b,rfl,h5⟩:=e4.letters;exact⟨a,b,rfl,sh ⟨y,e1,e2,e3,h5.out⟩⟩)
   have HT:=sh hT;have HSJ:=sh (wu.old hT.at_);have m9:=sh (show nm∉ns.take j/\ns.take (j+1)=ns.take j++[nm]/\G.R nm=some r/\r≠0/\s.data.toList=Be.low r 4/\Fo.R nm=some r from ⟨qu,cW,Xf,iT,Wb,hr⟩);clear hT hI h0 kU GP cO qu cW Xf iT V6 dw hnv Wb hs hr sr ME zS wu MA bF Bv aaj hpz;go_wp2_with fail
   refine(HPF.out _).mono ?_;rintro e w2 ⟨rfl,aC⟩;have bm:=sh aC;have q3':w2.cell? ⟨E.t,3,none⟩=some (.int .i64 (G.main.root:Nat)):=(aC.cell (p:=⟨E.t,3,none⟩) XC).trans q3;have Ri:E.t<w2.heap.size:=Nat.lt_of_lt_of_le XC aC.size;clear aC q3 q11 Mv gb;go_wp2_with fail
   refine(HTP.out _ bm.out).mono ?_;rintro e w4 ⟨a,b9,rfl,KF⟩;obtain⟨y,e1,e2,e3,e4⟩:=KF.out;rcases e4 with⟨root,P',σ',S',k',e5,sY,jJ,cG,kz,bB,bU⟩|⟨hF,e5,σ',S',cG,bB,bU⟩
   ·injection e5 with e5
    injection e5 with e5;simp only[agH,adx,ags,true_and,and_true]at e5;obtain⟨rfl,rfl⟩:=e5;rw[HPZ.out]at kz;have MI:ah Sj wr w4:=(ah.af bm.out Sj).trans bB;have IZ:aj wr Sj S':=bU.mono bm.out.size;obtain⟨q34,f34,lt4⟩:w4.cell? ⟨E.t,3,none⟩=some (.int .i64 (G.main.root:Nat))/\w4.frozen? ⟨E.t,3,none⟩=false/\E.t<w4.heap.size:=by
     obtain⟨x4,f4,Dc,Jt,Hz,Dp,Dd,kL,-⟩:=cG;exact⟨kL.cells.cell 3,kL.cells.frozen 3,kL.cells.lt⟩
    have HN:=sh (qK HT.out m9.out.2.1 (t:=⟨root,P',Tr.dB nm y G.main.L⟩) (FJ HT.out.ok m9.out.2.2.1 m9.out.2.2.2.1 e1 (by rw[e2];exact m9.out.2.2.2.2.1) sY jJ.toMoved) (Tr.Cv nm y G.main.L) cG (by omega) MI IZ);clear cG MI IZ sY jJ kz bB bU KF e1 e2 e3;go_wp2_with fail
    go_roundw
    case rel=>first|exact⟨j+1,by go_num,by omega,HN⟩|((repeat apply acA);exact⟨⟨j+1,by go_num,by omega,HN⟩,rfl⟩)
    case measure=>simp[intOf];omega
   ·injection e5 with e5
    injection e5 with e5;simp only[agH,adx,ags,true_and,and_true]at e5;obtain⟨rfl,rfl⟩:=e5;obtain⟨x4,f4,Dc,Jt,Hz,Dp,Dd,kL,Wo,dO⟩:=cG;have q34:w4.cell? ⟨E.t,3,none⟩=some (.int .i64 (G.main.root:Nat)):=kL.cells.cell 3;have f34:=kL.cells.frozen 3;have lt4:E.t<w4.heap.size:=kL.cells.lt;have iU:Bk (w4.setCell ⟨E.t,3,none⟩ (.int .i64 0)) E.t 103 (aO { E with root:=0 } x4 f4 Dc Dp Dd):=by
     have:=kL.cells.put 3 (.int .i64 0);exact this
    have KD:=bf.other (E':={ E with root:=0 }) kL iU ((ah.refl [E.t] w4).setCell (p:=⟨E.t,3,none⟩) (.inl (by simp)) _) ⟨rfl,rfl,rfl,rfl,rfl,rfl,rfl,rfl,rfl,rfl,rfl,rfl,rfl,rfl,rfl,rfl,rfl,rfl,rfl⟩;have Wh:E.t∈S':=by rw[kL.blocks];simp[aB]
    have MI:ah Sj wr w4:=(ah.af bm.out Sj).trans bB;have IZ:aj wr Sj S':=bU.mono bm.out.size;have iD:ah Sj wr (w4.setCell ⟨E.t,3,none⟩ (.int .i64 0)):=MI.setCell (p:=⟨E.t,3,none⟩) (IZ _ Wh) _;have bX:=sh (show oG E F S k q Fo w (.returned (.int .i64 9)) (w4.setCell ⟨E.t,3,none⟩ (.int .i64 0)) from
     .inr ⟨hF,rfl,0,σ',S',⟨x4,f4,Dc,Jt,Hz,Dp,Dd,KD,Wo,dO.other ⟨rfl,rfl,rfl,rfl,rfl,rfl⟩⟩,(ah.af bh.out S).trans (HT.out.off.then iD HT.out.fresh),(HT.out.fresh.trans IZ HT.out.off.size).mono bh.out.size⟩)
    clear kL Wo dO iU KD Wh MI IZ iD bB bU KF e1 e2 e3;go_wp2_with fail
    go_ret
    exact bX.out
  ·have z1:decide ((j:Int)<(ns.length:Int))=false:=decide_eq_false (by omega)
   have sX:j=ns.length:=by omega
   have T0:=sh (show oG E F S k q Fo w (.returned (.int .i64 0)) wr from .inl ⟨rfl,G,σj,Sj,kj,hT.tr,hT.NS,fun n=>by
    rw[hT.R n,sX,List.take_length];split
    ·rfl
    ·next GD=>
     have hn:n∉ns:=fun h=>GD (Forest.eC.2 h);cases hr:Fo.R n with
     | none=>rfl
     | some r=>exact absurd ((PS.out n).2 (by unfold dC;rw[hr];rfl)) hn,hT.ok,hT.at_,by
    have h1:=hT.cost;have h2:=acV q C7.out;rw[sX]at h1;omega,(ah.af bh.out S).trans hT.off,hT.fresh.mono bh.out.size⟩)
   clear hT hI h0;go_wp2_with fail
   go_ret
   exact T0.out
namespace Tr
theorem BX{q c:Nat}:∀(ks:List Kd),(∀k∈ks,∃m,c<=m/\q*m<=k.L.length/\k.P.length+1<=2*m+(k.L.flatMap (·.aa)).length)->
  ∃M,ks.length*c<=M/\q*M<=(ks.flatMap (·.L)).length/\(ks.flatMap (·.P)).length+ks.length<=2*M+((ks.flatMap (·.L)).flatMap (·.aa)).length
 | [],_=>⟨0,by simp,by simp,by simp⟩
 | k::ks,h=>by
  obtain⟨m,m1,m2,m3⟩:=h k (by simp);obtain⟨M,n1,n2,n3⟩:=BX ks fun x hx=>h x (by simp[hx]);refine⟨m+M,?_,?_,?_⟩
  ·rw[abv,Nat.succ_mul];omega
  ·rw[abH,AT,Nat.mul_add];omega
  ·simp only[abH,aej,AT,abv]
   omega
theorem aD.r9{σ :ag}{q:Nat}:∀ {d no:Nat} {P:List Nat} {L:List En},aD σ d no P L->(d=0->q<=L.length)->(∀X:List En,(∀e∈X,e∈L)->122<=Nd.sum true (X.map (·.cell))->q<=X.length)->
  ∃m,2 ^ d<=m/\q*m<=L.length/\P.length+1<=2*m+(L.flatMap (·.aa)).length
 | 0,no,P,L,h,h0,hq=>by
  obtain⟨cs,P',rfl,g1,g2,g3,⟨-,rfl,-,-⟩,g5,g6,g7⟩:=h;refine⟨1,AS _,by rw[Nat.mul_one];exact h0 rfl,?_⟩;rw[abv];omega
 | d+1,no,P,L,h,h0,hq=>by
  obtain⟨cs,P',rfl,g1,g2,g3,⟨ks,fy,rfl,rfl,-,-,ia⟩,g5,g6,g7⟩:=h;have h2:=g7 rfl;rw[fy,IS]at h2;have dw:∀k∈ks,∀X:List En,(∀e∈X,e∈k.L)->122<=Nd.sum true (X.map (·.cell))->q<=X.length:=fun k hk X hX hs=>hq X (fun e he=>abr.2 ⟨k,hk,hX e he⟩) hs;obtain⟨M,n1,n2,n3⟩:=BX (q:=q) (c:=2 ^ d) ks fun k hk=>aD.r9 (ia k hk).2 (fun hd=>dw k hk k.L (fun e he=>he) ((ia k hk).1.2 hd)) (dw k hk);have h3:=acV (2 ^ d) h2;refine⟨M,?_,n2,?_⟩
  ·rw[agl,Nat.mul_comm];omega
  ·rw[abv];omega
theorem qI(s:Nat):∀(X:List En),(∀e∈X,Nd.size true e.cell<=s)->Nd.sum true (X.map (·.cell))<=2+s*X.length
 | [],_=>by simp[Nd.sum]
 | e::X,h=>by
  have h1:=qI s X fun x hx=>h x (by simp[hx]);have h2:=h e (by simp);rw[List.map_cons,Nd.sum_cons,abv,Nat.mul_succ];omega
theorem uX(p:Nat):∀(L:List En),(∀e∈L,e.aa.length<=p)->(L.flatMap (·.aa)).length<=p*L.length
 | [],_=>by simp
 | e::L,h=>by
  have h1:=uX p L fun x hx=>h x (by simp[hx]);have h2:=h e (by simp);rw[abH,AT,abv,Nat.mul_succ];omega
theorem dt.r9{σ :ag}{root:Nat}{P:List Nat}{L:List En}(h:dt σ root P L){s n p q M c:Nat}(hs:∀e∈L,Nd.size true e.cell<=s)(hn:L.length<=n)(hp:∀e∈L,e.aa.length<=p)
  (hq:∀l,122<=2+s*l->q<=l) (hM:∀m,q*m<=n->m<=M) (hM1:1<=M) (hc:∀d,2 ^ d<=M->2*d+4<=c):ej σ c root P L/\P.length+1<=2*M+p*n:=by
 have iS:(L.flatMap (·.aa)).length<=p*n:=abw (uX p L hp) (agV _ hn);have xG:=hc 0 (by simpa using hM1);rcases h with⟨rfl,rfl,rfl⟩|⟨d,h⟩
 ·exact⟨.inl ⟨rfl,rfl,rfl,by omega⟩,by simp;omega⟩
 ·cases d with
  | zero=>
   refine⟨.inr ⟨0,h,xG⟩,?_⟩;obtain⟨cs,P',rfl,g1,g2,g3,⟨-,rfl,-,-⟩,g5,g6,g7⟩:=h;rw[abv];omega
  | succ d=>
   obtain⟨m,m1,m2,m3⟩:=h.r9 (q:=q) (fun hd=>by cases hd) (fun X hX aer=>hq _ (abw aer (qI s X fun e he=>hs e (hX e he))));have hmM:=hM m (abw m2 hn);exact⟨.inr ⟨d+1,h,hc _ (abw m1 hmM)⟩,by omega⟩
theorem Chain.some{σ :ag}{no:Nat}{ns:List Nat}{v:List UInt8}(h:Chain σ no ns v)(hn:no≠0):ns≠[]:=by
 rintro rfl;exact hn h.1
theorem eI.size{σ :ag}{e:En}(h:eI σ e)(hk:e.cell.key.size<=2)(hp:e.aa.length=pieces e.val.length):Nd.size true e.cell<=(if e.val.length<=96 then 9+e.val.length else 15):=by
 have hz:e.val.length<=96->pieces e.val.length=0:=fun h9=>by unfold pieces;rw[if_pos h9]
 have zi:¬ e.val.length<=96->1<=pieces e.val.length:=fun h9=>by unfold pieces;rw[if_neg h9];omega
 rcases h.2 with⟨h1,h2,h3⟩|⟨h1,h2,h3⟩
 ·have hv:e.val.length=e.cell.val.size:=by rw[h3];rfl
  have hl:e.val.length<=96:=by
   by_cases h9:e.val.length<=96
   ·exact h9
   ·have:=zi h9
    rw[h2,List.length_nil]at hp;omega
  rw[if_pos hl];unfold Nd.size;rw[if_pos rfl,if_neg (by omega)];omega
 ·have hl:¬ e.val.length<=96:=fun h9=>by
   have h8:=hz h9;have h7:=acy.2 (Chain.some h2 h1);omega
  rw[if_neg hl];unfold Nd.size;rw[if_pos rfl,if_pos (by omega)];omega
theorem eI.short{σ :ag}{e:En}(h:eI σ e)(hn:e.val.length=4):e.aa=[]:=by
 rcases h.2 with⟨-,h2,-⟩|⟨h1,-,h3⟩
 ·exact h2
 ·have h4:=h.1
  unfold Nd.bQ at h4;rw[if_neg h1]at h4;simp at h4;omega
end Tr
namespace Fr
theorem CO{u:Nat}:∀(l:List (Nat×Nat)),Sorted l->(l.takeWhile fun y=>decide (y.1<=u)).length=(l.filter fun y=>decide (y.1<u+1)).length
 | [],_=>rfl
 | a::l,h=>by
  obtain⟨h1,h2⟩:=List.pairwise_cons.1 h;by_cases ha:a.1<=u
  ·rw[aeD,if_pos (by simpa using ha),List.filter_cons_of_pos (by simp;omega),abv,abv,CO l h2]
  ·rw[aeD,if_neg (by simpa using ha),List.filter_cons_of_neg (by simp;omega)]
   have:l.filter (fun y=>decide (y.1<u+1))=[]:=List.filter_eq_nil_iff.2 fun y hy=>by
    have:=lt_iff.1 (h1 y hy);simp;omega
   rw[this]
end Fr
namespace Tr
def F4 (σ :ag) (P:List Nat) (L:List En) (Lf Br:List Nat):Prop:=∀n∈P,n∈Br\/(qa σ n/\n∈Lf)\/∃e∈L,n∈e.aa
theorem uJ{σ :ag}:∀(ks:List Kd),(∀k∈ks,∃Lf Br:List Nat,Br.length+1<=Lf.length/\Lf.length<=k.L.length/\F4 σ k.P k.L Lf Br)->
  ∃Lf Br:List Nat,Br.length+ks.length<=Lf.length/\Lf.length<=(ks.flatMap (·.L)).length/\F4 σ (ks.flatMap (·.P)) (ks.flatMap (·.L)) Lf Br
 | [],_=>⟨[],[],by simp,by simp,fun n hn=>by simp at hn⟩
 | k::ks,h=>by
  obtain⟨Lf,Br,m1,m2,m3⟩:=h k (by simp);obtain⟨Lf',Br',n1,n2,n3⟩:=uJ ks fun x hx=>h x (by simp[hx]);refine⟨Lf++Lf',Br++Br',?_,?_,fun n hn=> ?_⟩
  ·simp only[AT,abv];omega
  ·simp only[AT,abH];omega
  ·rw[abH]at hn
   rcases By.1 hn with hn|hn
   ·rcases m3 n hn with h9|⟨h8,h9⟩|⟨e,he,h9⟩
    ·exact .inl (by simp[h9])
    ·exact .inr (.inl ⟨h8,by simp[h9]⟩)
    ·exact .inr (.inr ⟨e,by rw[abH];simp[he],h9⟩)
   ·rcases n3 n hn with h9|⟨h8,h9⟩|⟨e,he,h9⟩
    ·exact .inl (by simp[h9])
    ·exact .inr (.inl ⟨h8,by simp[h9]⟩)
    ·exact .inr (.inr ⟨e,by rw[abH];exact By.2 (.inr he),h9⟩)
theorem aD.kinds{σ :ag}:∀ {d no:Nat} {P:List Nat} {L:List En},aD σ d no P L->∃Lf Br:List Nat,Br.length+1<=Lf.length/\Lf.length<=L.length/\F4 σ P L Lf Br
 | 0,no,P,L,h=>by
  obtain⟨cs,P',rfl,g1,g2,g3,⟨-,rfl,-,-⟩,g5,g6,g7⟩:=h;refine⟨[no],[],by simp,?_,fun n hn=> ?_⟩
  ·have:=acy.2 g6
   show 1<=_;omega
  ·rcases OF.1 hn with rfl|hn
   ·exact .inr (.inl ⟨⟨_,g3⟩,by simp⟩)
   ·exact .inr (.inr (abr.1 hn))
 | d+1,no,P,L,h=>by
  obtain⟨cs,P',rfl,g1,g2,g3,⟨ks,fy,rfl,rfl,-,-,ia⟩,g5,g6,g7⟩:=h;have h2:=g7 rfl;rw[fy,IS]at h2;obtain⟨Lf,Br,n1,n2,n3⟩:=uJ ks fun k hk=>aD.kinds (ia k hk).2;refine⟨Lf,no::Br,by rw[abv];omega,n2,fun n hn=> ?_⟩;rcases OF.1 hn with rfl|hn
  ·exact .inl (by simp)
  ·exact(n3 n hn).imp (fun h9=>abW _ h9) id
theorem dt.kinds{σ :ag}{root:Nat}{P:List Nat}{L:List En}(h:dt σ root P L):∃Lf Br:List Nat,Br.length<=L.length/\Lf.length<=L.length/\F4 σ P L Lf Br:=by
 rcases h with⟨rfl,rfl,rfl⟩|⟨d,h⟩
 ·exact⟨[],[],by simp,by simp,fun n hn=>by cases hn⟩
 ·obtain⟨Lf,Br,n1,n2,n3⟩:=h.kinds
  exact⟨Lf,Br,by omega,n2,n3⟩
theorem dt.size{σ :ag}{root:Nat}{P:List Nat}{L:List En}(h:dt σ root P L):P.length<=2*L.length+(L.flatMap (·.aa)).length:=by
 rcases h with⟨rfl,rfl,rfl⟩|⟨d,h⟩
 ·simp
 ·have hL:=acy.2 h.ne
  obtain⟨m,m1,m2,m3⟩:=h.r9 (q:=1) (fun _=>by omega) (fun X _ hs=>by
   cases X with
   | nil=>simp[Nd.sum]at hs
   | cons a t=>simp)
  omega
theorem dt.UI{σ :ag}{root:Nat}{P:List Nat}{L:List En}(h:dt σ root P L)(hl:L.length<=31):ej σ 12 root P L:=by
 rcases h with⟨h1,h2,h3⟩|⟨d,h⟩
 ·exact .inl ⟨h1,h2,h3,by omega⟩
 ·refine .inr ⟨d,h,?_⟩
  have h1:=h.many;by_cases hd:d<=4
  ·omega
  ·have:=Nat.pow_le_pow_right (n:=2) (by omega) (show 5<=d by omega)
   omega
theorem Part.inner{σ :ag}:∀ {d:Nat} {cs:List Ce} {P:List Nat} {L:List En},Part σ d cs P L->∀e∈L,∀n∈e.aa,n∈P
 | 0,cs,P,L,⟨h1,h2,h3,h4⟩,e,he,n,hn=>by rw[h2];exact abr.2 ⟨e,he,hn⟩
 | d+1,cs,P,L,⟨ks,h1,h2,h3,h4,h5,h6⟩,e,he,n,hn=>by
  rw[h3]at he;obtain⟨k,hk,he⟩:=abr.1 he;rw[h2];refine abr.2 ⟨k,hk,?_⟩;obtain⟨AF,P',hP,g1,g2,g3,g4,-⟩:=(h6 k hk).2;rw[hP];exact abW _ (Part.inner g4 e he n hn)
theorem dt.inner{σ :ag}{root:Nat}{P:List Nat}{L:List En}(h:dt σ root P L):∀e∈L,∀n∈e.aa,n∈P:=by
 rcases h with⟨rfl,rfl,rfl⟩|⟨d,cs,P',rfl,g1,g2,g3,g4,-⟩
 ·intro e he;cases he
 ·exact fun e he n hn=>abW _ (g4.inner e he n hn)
end Tr
theorem Forest.Ok.apart{F:Forest}{σ :ag}(h:F.Ok σ){n m:ByteArray}(sr:m≠n){x:Nat}(hx:x∈(F.tr m).P):x∉(F.tr n).P:=by
 by_cases hn:n∈F.NS
 ·obtain⟨a,b,oU,ha,hb,hp⟩:=h.split hn
  have bI:=(aag.1 (hp.nodup_iff.1 h.nodup)).2.2;intro hxn;refine bI x hxn x ?_ rfl;have hm:m∈F.NS:=by
   by_cases hc:m∈F.NS
   ·exact hc
   ·rw[h.out m hc]at hx;cases hx
  rw[oU,By,OF]at hm;simp only[By];rcases hm with hm|hm|hm
  ·exact .inr (.inl (abr.2 ⟨m,hm,hx⟩))
  ·exact absurd hm sr
  ·exact .inr (.inr (abr.2 ⟨m,hm,hx⟩))
 ·rw[h.out n hn]
  exact fun hc=>by cases hc
theorem Forest.Ok.B9{F:Forest}{σ :ag}(h:F.Ok σ)(hn:F.NS.length<=2):F.main.P.length<=1/\Tr.ej σ 4 F.main.root F.main.P F.main.L:=by
 have h1:=h.B8;have cZ:∀e∈F.main.L,Nd.size true e.cell<=43:=fun e he=>by
  have h2:=(h.main.nV e he);have h3:=h.valid e.cell.key (h.qy _ (abO he));have h4:=(h.names e he).1;have h5:e.cell.over=0:=by
   rcases h2.2 with⟨h6,-,-⟩|⟨h6,-,h7⟩
   ·exact h6
   ·have h8:=h2.1
    unfold Nd.bQ at h8;rw[if_neg h6]at h8;simp at h8;omega
  have h6:e.cell.val.size=4:=by
   rcases h2.2 with⟨-,-,h7⟩|⟨h7,-,-⟩
   ·rw[h7]at h4;exact h4
   ·exact absurd h5 h7
  have h7:=h3.2;unfold Nd.size;rw[if_pos rfl,if_neg (by omega)];omega
 rcases h.main with⟨h2,h3,h4⟩|⟨d,h2⟩
 ·exact⟨by rw[h3];simp,.inl ⟨h2,h3,h4,AS _⟩⟩
 ·have hd:d=0:=by
   cases d with
   | zero=>rfl
   | succ d=>
    obtain⟨m,m1,m2,m3⟩:=h2.r9 (q:=3) (fun hd=>by cases hd) (fun X hX hs=>by
     have:=Tr.qI 43 X (fun e he=>cZ e (hX e he));omega)
    have:=Nat.two_pow_pos d;rw[agl]at m1;omega
  subst hd;refine⟨?_,.inr ⟨0,h2,by omega⟩⟩;obtain⟨cs,P',hP,g1,g2,g3,⟨-,hP',-,-⟩,g5,g6,g7⟩:=h2;have h0:F.main.L.flatMap (·.aa)=[]:=List.flatMap_eq_nil_iff.2 fun e he=>(h.main.nV e he).short (h.names e he).1;rw[hP,hP',h0];simp
def eH:ByteArray:=⟨#[97,0]⟩
def eL:ByteArray:=⟨#[98]⟩
theorem ep:eH≠eL:=by decide
theorem As:dc eH:=⟨by decide,by decide⟩
theorem Au:dc eL:=⟨by decide,by decide⟩
namespace Tr
theorem yb(key:ByteArray):∀(b:List En),((rest key b).flatMap (·.aa)).length<=(b.flatMap (·.aa)).length
 | []=>AS _
 | y::t=>by
  simp only[rest];split
  ·rw[abH,AT];omega
  ·exact AS _
theorem LL(key:ByteArray)(L:List En):(eM key L).Sublist L:=by
 obtain⟨a,b,rfl,h1,h2⟩:=bl key L;rw[de a b key h1 h2];exact(agy a).append (va key b)
theorem JG(key:ByteArray)(y:En)(L:List En):((dB key y L).flatMap (·.aa)).length<=(L.flatMap (·.aa)).length+y.aa.length:=by
 obtain⟨a,b,rfl,h1,h2⟩:=bl key L;rw[eu a b key y h1 h2];have h3:=yb key b;simp only[aej,AT,abH,List.flatMap_nil,List.append_nil];omega
theorem Iq(key:ByteArray)(L:List En):((eM key L).flatMap (·.aa)).length<=(L.flatMap (·.aa)).length:=by
 obtain⟨a,b,rfl,h1,h2⟩:=bl key L;rw[de a b key h1 h2];have h3:=yb key b;simp only[aej,AT];omega
theorem Ip{key:ByteArray}{L:List En}(hr:bj L)(h:∃x∈L,x.cell.key=key):(eM key L).length+1<=L.length:=by
 obtain⟨x,hx,hk⟩:=h;have h1:=ji (((eM key L).map (·.cell.key))++[key]) (L.map (·.cell.key)) (by
  rw[aag];refine⟨jt (afl (LL key L) hr),by simp,fun a ha b hb e=> ?_⟩;rw[IN]at hb;subst hb e;obtain⟨y,hy,Re⟩:=abK.1 ha;exact((oO hr y).1 hy).2 Re) (fun k zR=>by
  rcases By.1 zR with zR|zR
  ·obtain⟨y,hy,rfl⟩:=abK.1 zR
   exact abO ((oO hr y).1 hy).1
  ·rw[IN]at zR
   subst zR;rw[<-hk];exact abO hx)
 simpa using h1
end Tr
namespace Forest
def size (F:Forest):Nat:=(F.tr eH).L.length+(F.tr eL).L.length
def mu (F:Forest):Nat:=((F.tr eH).L.flatMap (·.aa)).length+((F.tr eL).L.flatMap (·.aa)).length
def Ga (F:Forest):Prop:=∀n∈F.NS,n=eH\/n=eL
theorem Ga.len{F:Forest}{σ :ag}(h:F.Ga)(ho:F.Ok σ):F.NS.length<=2:=by
 have:=ji F.NS [eH,eL] ho.nd (fun n hn=>by simpa using h n hn);simpa using this
theorem Qz(tr:ByteArray->Tn):∀(l:List ByteArray),l.Nodup->(∀n∈l,n=eH\/n=eL)->(flat tr l).length<=(tr eH).P.length+(tr eL).P.length
 | [],_,_=>by simp[flat]
 | [a],_,h=>by
  rcases h a (by simp)with rfl|rfl<;>simp[flat]
 | [a,b],hn,h=>by
  have oU:a≠b:=by
   intro e;subst e;simp at hn
  rcases h a (by simp)with rfl|rfl<;>rcases h b (by simp)with rfl|rfl
  ·exact absurd rfl oU
  ·simp[flat]
  ·simp[flat];omega
  ·exact absurd rfl oU
 | a::b::c::t,hn,h=>by
  have:=ji (a::b::c::t) [eH,eL] hn (fun n hn=>by simpa using h n hn);simp at this
theorem Ga.aa{F:Forest}{σ :ag}(h:F.Ga)(ho:F.Ok σ):F.aa.length<=1+2*F.size+F.mu:=by
 unfold Forest.aa;rw[AT];have h1:=(ho.B9 (h.len ho)).1;have h2:=Qz F.tr F.NS ho.nd h;have h3:=(ho.each eH).size;have h4:=(ho.each eL).size;unfold size mu;omega
theorem uY(F:Forest)(n:ByteArray)(t:Tn)(m:ByteArray):(F.put n t).tr m=if m=n then t else F.tr m:=rfl
theorem N0(F:Forest)(n:ByteArray)(t:Tn):(F.put n t).main=F.main:=(F.Hl n).2.2.1
theorem Ga.put{F:Forest}(h:F.Ga){n:ByteArray}(hn:n=eH\/n=eL)(t:Tn):(F.put n t).Ga:=by
 intro m hm;have hm:m∈(F.dF n).NS:=hm;unfold dF at hm;split at hm
 ·exact h m hm
 ·rcases OF.1 hm with rfl|hm
  ·exact hn
  ·exact h m hm
end Forest
structure PG (σ :ag) (U:List Nat) (Fo:Forest) (x w:Nat):Prop where
 leaf:∃N:List Nat,N.length<=2*x/\∀name,∀n∈(Fo.tr name).P,Tr.qa σ n->n∈N\/n∈U
 eG:∃W:List Nat,W.length<=w/\∀name,∀e∈(Fo.tr name).L,∀n∈e.aa,n∈W\/n∈U
 main:∀n∈Fo.main.P,n∈U
theorem PG.begin{σ :ag}{Fo:Forest}(ho:Fo.Ok σ):PG σ Fo.aa Fo 0 0:=by
 have dw:∀name,∀n∈(Fo.tr name).P,n∈Fo.aa:=fun name n hn=>by
  have hm:name∈Fo.NS:=by
   by_cases hc:name∈Fo.NS
   ·exact hc
   ·rw[ho.out name hc]at hn;cases hn
  exact By.2 (.inr (abr.2 ⟨name,hm,hn⟩))
 exact⟨⟨[],by simp,fun name n hn _=> .inr (dw name n hn)⟩,⟨[],by simp,fun name e he n hn=> .inr (dw name n ((ho.each name).inner e he n hn))⟩,fun n hn=>By.2 (.inl hn)⟩
theorem PG.az{σ :ag}{U:List Nat}{Fo:Forest}{x w:Nat}(h:PG σ U Fo x w)(ho:Fo.Ok σ)(h2:Fo.Ga){dk:List Nat}(hn:dk.Nodup)(hd:∀n∈dk,σ n≠none/\n∉U):dk.length<=2*x+Fo.size+w/\dk.length<=2*Fo.size+w:=by
 obtain⟨N,n1,n2⟩:=h.leaf;obtain⟨W,w1,w2⟩:=h.eG;obtain⟨La,Ba,a1,a2,a3⟩:=(ho.each eH).kinds;obtain⟨Lb,Bb,b1,b2,b3⟩:=(ho.each eL).kinds;have key:∀n∈dk,∃name,(name=eH\/name=eL)/\n∈(Fo.tr name).P/\n∉U:=fun n rj=>by
  obtain⟨g1,g2⟩:=hd n rj;rcases By.1 (ho.full n g1)with g3|g3
  ·exact absurd (h.main n g3) g2
  ·obtain⟨name,g4,g5⟩:=abr.1 g3
   exact⟨name,h2 name g4,g5,g2⟩
 have e1:=ji dk (Ba++(Bb++(N++W))) hn fun n rj=>by
  obtain⟨name,g1,g2,g3⟩:=key n rj;simp only[By];rcases g1 with rfl|rfl
  ·rcases a3 n g2 with g|⟨g,-⟩|⟨e,g,g'⟩
   ·exact .inl g
   ·exact .inr (.inr (.inl ((n2 _ n g2 g).resolve_right g3)))
   ·exact .inr (.inr (.inr ((w2 _ e g n g').resolve_right g3)))
  ·rcases b3 n g2 with g|⟨g,-⟩|⟨e,g,g'⟩
   ·exact .inr (.inl g)
   ·exact .inr (.inr (.inl ((n2 _ n g2 g).resolve_right g3)))
   ·exact .inr (.inr (.inr ((w2 _ e g n g').resolve_right g3)))
 have e2:=ji dk (Ba++(Bb++(La++(Lb++W)))) hn fun n rj=>by
  obtain⟨name,g1,g2,g3⟩:=key n rj;simp only[By];rcases g1 with rfl|rfl
  ·rcases a3 n g2 with g|⟨-,g⟩|⟨e,g,g'⟩
   ·exact .inl g
   ·exact .inr (.inr (.inl g))
   ·exact .inr (.inr (.inr (.inr ((w2 _ e g n g').resolve_right g3))))
  ·rcases b3 n g2 with g|⟨-,g⟩|⟨e,g,g'⟩
   ·exact .inr (.inl g)
   ·exact .inr (.inr (.inr (.inl g)))
   ·exact .inr (.inr (.inr (.inr ((w2 _ e g n g').resolve_right g3))))
 simp only[AT]at e1 e2;unfold Forest.size;omega
theorem PG.put{σ σ':ag}{U:List Nat}{Fo:Forest}{x w:Nat}(h:PG σ U Fo x w)(ho:Fo.Ok σ){name:ByteArray}{t:Tn}(hm:Tr.aE 2 σ (Fo.tr name).P σ' t.P){Y:List Nat}(hL:∀e∈t.L,(∀n∈e.aa,n∈Y)\/e∈(Fo.tr name).L):PG σ' U (Fo.put name t) (x+1) (w+Y.length):=by
 obtain⟨N,n1,n2⟩:=h.leaf;obtain⟨W,w1,w2⟩:=h.eG;obtain⟨N',k1,k2⟩:=hm.r9;refine⟨⟨N++N',by rw[AT];omega,fun m n hn hl=> ?_⟩,⟨W++Y,by rw[AT];omega,fun m e he n hn=> ?_⟩,by rw[Forest.N0];exact h.main⟩
 ·rw[Forest.uY]at hn
  split at hn
  ·next e=>
   rcases k2 n hn hl with g|⟨g1,g2⟩
   ·exact .inl (by simp[g])
   ·obtain⟨b,hb⟩:=hl
    exact(n2 _ n g1 ⟨b,g2.symm.trans hb⟩).imp (fun g=>by simp[g]) id
  ·next e=>
   have g1:=ho.apart e hn;have g2:=hm.keep n g1 ((ho.each m).mem n hn).2.2;obtain⟨b,hb⟩:=hl;exact(n2 _ n hn ⟨b,g2.symm.trans hb⟩).imp (fun g=>by simp[g]) id
 ·rw[Forest.uY]at he
  split at he
  ·rcases hL e he with g|g
   ·exact .inl (by simp[g n hn])
   ·exact(w2 _ e g n hn).imp (fun g=>by simp[g]) id
  ·exact(w2 _ e he n hn).imp (fun g=>by simp[g]) id
end Go.Proofs.YtjbcbnemdhbhbaaGreatDoor
