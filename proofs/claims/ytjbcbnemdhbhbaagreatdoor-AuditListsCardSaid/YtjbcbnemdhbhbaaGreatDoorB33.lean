import Derived.Test.YtjbcbnemdhbhbaaGreatDoorB31
import Derived.Test.YtjbcbnemdhbhbaaGreatDoorB32
import Derived.Test.YtjbcbnemdhbhbaaGreatDoorB27
set_option maxRecDepth 100000
set_option linter.unusedVariables false
set_option linter.unusedSimpArgs false
set_option maxHeartbeats 40000000
open Array.mk renaming injEq→agC
open Exists renaming intro→acD
open Go renaming World→AI,maxLen→abi
open Go.Instr renaming lookup→acW
open Go.Lib renaming hid→sh
open Go.RowKit renaming Below→No
open Go.RowKit.Below renaming refl→IN
open Go.Value renaming int→acK
open Go.Value.int renaming injEq→agp
open List renaming mem_singleton→By,nodup_append→aai
open List.cons renaming injEq→adz
open Nat renaming le_add_right→agE,le_refl→AS,mul_le_mul_right→adb
namespace Go.Proofs.YtjbcbnemdhbhbaaGreatDoor
open Go.Proofs.Tryz
open Go.RowKit
theorem jG.three{p:aA}{S:List Nat}{σ :ag}{k c root:Nat}{P:List Nat}{L:List En}{key:ByteArray}{w:AI}{e:Ending}{w':AI}(h:jG p S σ k c root P L key w e w'):
  (∃r:Nat,e= .returned (.tuple #[.int .i64 r,.bool true,.int .i64 0])/\Hid ((∃x∈L,x.cell.key=key)/\∃(P':List Nat) (σ':ag) (S':List Nat) (k':Nat),Tr.dE σ' r P' (Tr.eL key L)/\Tr.aE 2 σ P σ' P'/\p.At w' S' σ' k'/\k<=k'+c/\ah S w w'/\aj w S S'))
  \/ (e= .returned (.tuple #[.int .i64 0,.bool false,.int .i64 9])/\Hid (p.F/\∃(σ':ag) (S':List Nat),p.At w' S' σ' 0/\ah S w w'/\aj w S S'))
  \/ (e= .returned (.tuple #[.int .i64 root,.bool false,.int .i64 0])/\Hid ((∀x∈L,x.cell.key≠key)/\No w.heap.size w w')):=by
 rcases h with⟨hx,a,b,rfl,h⟩|⟨iP,rfl,hb⟩
 ·rcases h with⟨r,P',σ',S',k',e5,h1⟩|⟨hF,e5,σ',S',h1⟩
  ·injection e5 with e5
   injection e5 with e5;simp only[agC,adz,agp,true_and,and_true]at e5;obtain⟨rfl,rfl⟩:=e5;exact .inl ⟨r,rfl,sh ⟨hx,P',σ',S',k',h1⟩⟩
  ·injection e5 with e5
   injection e5 with e5;simp only[agC,adz,agp,true_and,and_true]at e5;obtain⟨rfl,rfl⟩:=e5;exact .inr (.inl ⟨rfl,sh ⟨hF,σ',S',h1⟩⟩)
 ·exact .inr (.inr ⟨rfl,sh ⟨iP,hb⟩⟩)
def sn (E:Kv) (F:Prop) (S:List Nat) (σ :ag) (k c:Nat) (Fo:Forest) (nr:Nat) (name key:ByteArray) (w:AI) (e:Ending) (w':AI):Prop:=
 (e= .returned (.tuple #[.bool true,.int .i64 0])/\(∃x∈(Fo.tr name).L,x.cell.key=key)/\∃(t:Tn) (σ':ag) (S':List Nat) (k':Nat),t.L=Tr.eL key (Fo.tr name).L/\Tr.aE 2 σ (Fo.tr name).P σ' t.P/\Wr E F w' S' σ' k' (Fo.put name t) (nr+1)/\k<=k'+c/\ah (E.rm::S) w w'/\aj w S S')
 \/ (e= .returned (.tuple #[.bool false,.int .i64 0])/\(∀x∈(Fo.tr name).L,x.cell.key≠key)/\No w.heap.size w w')
 \/ (F/\e= .returned (.tuple #[.bool false,.int .i64 9])/\∃(σ':ag) (S':List Nat),(gu { E with over:=true } F).At w' S' σ' 0/\ah S w w'/\aj w S S')
theorem Oj{E:Kv}(hE:E.Ok){F:Prop}{w:AI}{S:List Nat}{σ :ag}{k nr:Nat}{Fo:Forest}(h:Wr E F w S σ k Fo nr)(nR:nr<=100000)(name key:ByteArray)(hn:eg name)
  {c:Nat} (QS:Tr.fa σ c (Fo.tr name).root (Fo.tr name).P (Fo.tr name).L) (hk:F\/c<=k):
  Calls prog 81 #[.pointer (some ⟨E.t,0,none⟩),.string name,.string key] w (sn E F S σ k c Fo nr name key w):=by
 obtain⟨x,f,dm,lv,fv,hc⟩:=h.cells;have HM:=sh (uz hc (by rw[show (aT E x f dm lv fv)[13]? =some (.bool E.over) from rfl,h.open_]) (by rw[show (aT E x f dm lv fv)[12]? =some (.int .i64 E.bQ) from rfl,h.first]) name hn);have HR:=sh (xC hE h name hn);have Mp:(Fo.tr name).P.Nodup:=by
  by_cases hc:name∈Fo.NS
  ·obtain⟨a,b,-,-,-,hp⟩:=h.ok.split hc
   exact(aai.1 (hp.nodup_iff.1 h.ok.nodup)).1
  ·rw[h.ok.out name hc];exact List.nodup_nil
 have hS:=(cj hE F).old h.at_;have HP:=sh fun(W:AI) (hb:No w.heap.size w W)=>(FT (cj hE F) ((cj hE F).below h.at_ hb) (Fo.tr name).root QS Mp key hk).mono fun e w' h=>h.three;have HTE:=sh fun(W:AI)=>pA E.t W;have HW:=sh h;have HS:=sh hS;have lt:=hc.lt;clear h hc Mp hS QS hk;go_enter func81,ntmps81
 go_wp2_with fail
 refine HM.out.mono ?_;rintro e w1 ⟨rfl,rfl⟩;go_wp2_with fail
 refine HR.out.mono ?_;rintro e w2 ⟨rfl,az⟩;have bz:=sh az;clear az;go_wp2_with fail
 refine(HP.out _ bz.out).mono ?_;have HB:=sh bz.out;rintro e w3 (⟨root,rfl,mZ⟩|⟨rfl,mZ⟩|⟨rfl,mZ⟩)
 ·obtain⟨hx,P',σ',S',k',uZ,jE,cL,ko,bS,bZ⟩:=mZ.out
  obtain⟨nr0,afB,CX⟩:=HW.out.roots;have qm:ah S w w3:=(ah.ae HB.out S).trans bS;have nP:aj w S S':=bZ.mono HB.out.size;have Ej:=CX.off qm HW.out.rm;obtain⟨w4,cm,ME,zi⟩:=(Ej.off ((ah.refl [] w3).drew) (by simp)).update underlying9 underlying101 (by unfold abi;omega) (s:=name) (by have:=hn.2;unfold abi;omega) (.int .i64 (root:Nat));obtain⟨w5,aa7,MF,SL⟩:=Ej.update underlying9 underlying101 (by unfold abi;omega) (s:=name) (by have:=hn.2;unfold abi;omega) (.int .i64 (root:Nat));obtain⟨x3,f3,FU,Kq,vZ,Gu,F0,iw,Gp,dx⟩:=cL;have q11:w3.cell? ⟨E.t,11,none⟩=some (.map (some E.rm)):=iw.cells.cell 11;have XD:=iw.cells.lt;have tH:E.rm∉S':=fun hs=>by
   rcases nP _ hs with h1|h1
   ·exact HW.out.rm h1
   ·have:=CX.lt;omega
  have tI:∀j,(if j=name then some (acK .i64 (root:Nat))else dy Fo.R j)=dy (Fo.put name ⟨root,P',Tr.eL key (Fo.tr name).L⟩).R j:=fun j=>by
   unfold dy Forest.put;simp only;split<;>rfl
  have lL:∀w',SMap prog 9 w' E.rm (nr0+1) (fun j=>if j=name then some (acK .i64 (root:Nat))else dy Fo.R j)->ah [E.rm] w3 w'->sn E F S σ k c Fo nr name key w (.returned (.tuple #[.bool true,.int .i64 0])) w':=fun w' hr ho=>
   .inl ⟨rfl,hx,⟨root,P',Tr.eL key (Fo.tr name).L⟩,σ',S',k',rfl,jE,
    ⟨(cj hE F).off ⟨x3,f3,FU,Kq,vZ,Gu,F0,iw,Gp,dx⟩ ho (fun b hb hs=>by rw[By]at hs;subst hs;exact tH hb),⟨nr0+1,by omega,by rw[<-(funext tI:_=dy _)];exact hr⟩,tH,HW.out.ok.put hn uZ jE.toMoved,by
     rw[HW.out.root];unfold Forest.put Forest.dB;split<;>rfl,HW.out.open_,HW.out.first⟩,ko,(qm.mono (fun b hb=> .inl (by simp[hb]))).trans (ho.mono (fun b hb=> .inl (by simp at hb;simp[hb]))),nP⟩
  have WO:=sh (lL w4 ME ((ah.refl [E.rm] w3).drew.grown zi (fun g hg=> .inl (by simp at hg;simp[hg]))));have HE5:=sh (lL w5 MF ((ah.refl [E.rm] w3).grown SL (fun g hg=> .inl (by simp at hg;simp[hg]))));clear lL tI CX Ej ME zi MF SL iw Gp dx uZ jE ko bS bZ qm nP mZ hx tH;go_wp2_with fail
  refine(HTE.out _).mono ?_;rintro e w6 ⟨rfl,rfl⟩;go_wp2_with fail
  go_ret2
  first|exact WO.out|exact HE5.out
 ·obtain⟨hF,σ',S',cL,bS,bZ⟩:=mZ.out
  obtain⟨x3,f3,FU,Kq,vZ,Gu,F0,iw,Gp,dx⟩:=cL;have qm:ah S w w3:=(ah.ae HB.out S).trans bS;have nP:aj w S S':=bZ.mono HB.out.size;have XD:=iw.cells.lt;have oQ:Bk (w3.setCell ⟨E.t,13,none⟩ (.bool true)) E.t 103 (aT { E with over:=true } x3 f3 FU Gu F0):=by
   have:=iw.cells.put 13 (.bool true);exact this
  have ht:E.t∈S':=by rw[iw.blocks];simp[aB]
  have bV:=sh (Cs iw.cells 9 (by decide) ⟨_,rfl⟩);have HE:=sh (show sn E F S σ k c Fo nr name key w (.returned (.tuple #[.bool false,.int .i64 9])) (w3.setCell ⟨E.t,13,none⟩ (.bool true)) from
   .inr (.inr ⟨hF,rfl,σ',S',⟨x3,f3,FU,Kq,vZ,Gu,F0,iw.other oQ ((ah.refl [E.t] w3).setCell (p:=⟨E.t,13,none⟩) (.inl (by simp)) _) ⟨rfl,rfl,rfl,rfl,rfl,rfl,rfl,rfl,rfl,rfl,rfl,rfl,rfl,rfl,rfl,rfl,rfl,rfl,rfl⟩,Gp,dx.other ⟨rfl,rfl,rfl,rfl,rfl,rfl⟩⟩,qm.setCell (p:=⟨E.t,13,none⟩) (by
    rcases nP _ ht with h1|h1
    ·exact .inl h1
    ·exact .inr h1) _,nP⟩))
  clear oQ ht iw Gp dx bS bZ qm nP mZ;go_wp2_with fail
  refine bV.out.mono ?_;rintro e w4 ⟨rfl,rfl⟩;go_wp2_with fail
  go_ret2
  exact HE.out
 ·obtain⟨iP,aQ⟩:=mZ.out
  have HE:=sh (show sn E F S σ k c Fo nr name key w (.returned (.tuple #[.bool false,.int .i64 0])) w3 from .inr (.inl ⟨rfl,iP,HB.out.trans (aQ.mono HB.out.size)⟩));clear iP aQ mZ;go_wp2_with fail
  refine(HTE.out _).mono ?_;rintro e w6 ⟨rfl,rfl⟩;go_wp2_with fail
  go_ret2
  exact HE.out
theorem Jg(r:Nat)(h:r<512):ai ⟨(Be.low r 4).toArray⟩ 0 4=r:=by
 unfold ai;have:((Be.low r 4).toArray.toList.drop 0).take 4=Be.low r 4:=by
  rw[List.drop_zero,List.take_of_length_le (by rw[Be.aq];exact AS 4)]
 show Be.num (((Be.low r 4).toArray.toList.drop 0).take 4)=r;rw[this];exact Be.cq r 4 (by omega)
theorem Kv.Ok.E4{E:Kv}(h:E.Ok)(r:Int):Kv.Ok { E with root:=r }:=⟨h.txn,h.JO,h.on,h.steps,h.lim,h.yI,h.upto⟩
structure Told (E:Kv) (F:Prop) (w:AI) (S:List Nat) (k:Nat) (Fo:Forest) (ns:List ByteArray) (c:Nat) (j:Nat) (w':AI) (G:Forest) (σ':ag) (S':List Nat) (k':Nat):Prop where
 tr:G.tr=Fo.tr
 NS:G.NS=Fo.NS
 R:∀n,G.R n=if Forest.known (ns.take j) n=true then none else Fo.R n
 len:G.main.L.length<=Fo.main.L.length+j
 ok:G.Ok σ'
 at_:(gu { E with root:=G.main.root } F).At w' S' σ' k'
 cost:k<=k'+j*c
 off:ah S w w'
 fresh:aj w S S'
def ow (E:Kv) (F:Prop) (S:List Nat) (k q:Nat) (Fo:Forest) (w:AI) (e:Ending) (w':AI):Prop:=
 (e= .returned (.int .i64 0)/\∃(G:Forest) (σ':ag) (S':List Nat) (k':Nat),G.tr=Fo.tr/\G.NS=Fo.NS/\(∀n,G.R n=none)/\G.Ok σ'/\(gu { E with root:=G.main.root } F).At w' S' σ' k'/\k<=k'+Fo.NS.length*q/\ah S w w'/\aj w S S')
 \/ (F/\e= .returned (.int .i64 9)/\∃(r:Int) (σ':ag) (S':List Nat),(gu { E with root:=r } F).At w' S' σ' 0/\ah S w w'/\aj w S S')
theorem Fj{G:Forest}{σ σ':ag}(h:G.Ok σ){name:ByteArray}{r root:Nat}{P':List Nat}{y:En}(hr:G.R name=some r)(VK:r≠0)(QZ:y.cell.key=name)(hyv:y.val=Be.low r 4)(ht:Tr.dE σ' root P' (Tr.dL name y G.main.L))(hm:Tr.Moved σ G.main.P σ' P'):
  (G.tell ⟨root,P',Tr.dL name y G.main.L⟩ name).Ok σ':=by
 obtain⟨e1,e2⟩:=h.law name r hr;have hs:r<512:=by rw[e1];exact(h.each name).small
 have yy:ai ⟨y.val.toArray⟩ 0 4=r:=by rw[hyv];exact Jg r hs
 have Ei:=h.main.rising;refine h.tell (t:=⟨root,P',Tr.dL name y G.main.L⟩) ht hm (fun e he=> ?_) name ?_ (fun m r' nQ IQ=> ?_)
 ·rcases(Tr.GD Ei QZ e).1 he with rfl|⟨he,-⟩
  ·exact⟨by rw[hyv,Be.aq],by rw[yy];omega,by rw[yy];exact hs⟩
  ·exact h.names e he
 ·rw[bF.put Ei QZ,if_pos rfl,yy,e1]
 ·rw[bF.put Ei QZ,if_neg nQ]
  exact IQ
theorem qI{E:Kv}{F:Prop}{w1 wr w4:AI}{S Sj S':List Nat}{k kj k' q j:Nat}{Fo G:Forest}{ns:List ByteArray}{σj σ':ag}(hT:Told E F w1 S k Fo ns q j wr G σj Sj kj){nm:ByteArray}(p2:ns.take (j+1)=ns.take j++[nm]){t:Tn}(hG:(G.tell t nm).Ok σ')
  (hlen:t.L.length<=G.main.L.length+1) (cL:(gu { E with root:=(G.main.root:Nat) } F).At w4 S' σ' k') (hk:kj<=k'+q) (bS:ah Sj wr w4) (bZ:aj wr Sj S'):
  ∃G σ' S' k',Told E F w1 S k Fo ns q (j+1) (w4.setCell ⟨E.t,3,none⟩ (.int .i64 (t.root:Nat))) G σ' S' k':=by
 obtain⟨x4,f4,CO,Je,Hc,C0,CP,kK,Wg,fE⟩:=cL;have iO:Bk (w4.setCell ⟨E.t,3,none⟩ (.int .i64 (t.root:Nat))) E.t 103 (aT { E with root:=(t.root:Nat) } x4 f4 CO C0 CP):=by
  have:=kK.cells.put 3 (.int .i64 (t.root:Nat));exact this
 have Kk:=bd.other (E':={ E with root:=(t.root:Nat) }) kK iO ((ah.refl [E.t] w4).setCell (p:=⟨E.t,3,none⟩) (.inl (by simp)) _) ⟨rfl,rfl,rfl,rfl,rfl,rfl,rfl,rfl,rfl,rfl,rfl,rfl,rfl,rfl,rfl,rfl,rfl,rfl,rfl⟩;have V9:E.t∈S':=by rw[kK.blocks];simp[aB]
 have kV:ah Sj wr (w4.setCell ⟨E.t,3,none⟩ (.int .i64 (t.root:Nat))):=bS.setCell (p:=⟨E.t,3,none⟩) (bZ _ V9) _;refine⟨G.tell t nm,σ',S',k',hT.tr,hT.NS,fun m=> ?_,?_,hG,⟨x4,f4,CO,Je,Hc,C0,CP,Kk,Wg,fE.other ⟨rfl,rfl,rfl,rfl,rfl,rfl⟩⟩,?_,hT.off.then kV hT.fresh,hT.fresh.trans bZ hT.off.size⟩
 ·show (if m=nm then none else G.R m)=_
  by_cases nQ:m=nm
  ·rw[if_pos nQ,if_pos (Forest.eB.2 (by rw[p2,nQ];simp))]
  ·rw[if_neg nQ,hT.R m]
   by_cases OY:m∈ns.take j
   ·rw[if_pos (Forest.eB.2 OY),if_pos (Forest.eB.2 (by rw[p2];simp[OY]))]
   ·rw[if_neg (fun h=>OY (Forest.eB.1 h)),if_neg (fun h=>by
     have:=Forest.eB.1 h;rw[p2,List.mem_append,By]at this;exact this.elim OY nQ)]
 ·have h2:=hT.len
  show t.L.length<=_;omega
 ·have h1:=hT.cost
  rw[Nat.succ_mul];omega
theorem Jd{E:Kv}(hE:E.Ok){F:Prop}{w:AI}{S:List Nat}{σ :ag}{k nr:Nat}{Fo:Forest}(h:Wr E F w S σ k Fo nr)(nR:nr<=1000000){q:Nat}(qZ:∀(τ :ag) (G:Forest),G.Ok τ ->G.NS=Fo.NS->Tr.fa τ q G.main.root G.main.P G.main.L)(hk:F\/Fo.NS.length*q<=k):
  Calls prog 109 #[.pointer (some ⟨E.t,0,none⟩)] w (ow E F S k q Fo w):=by
 obtain⟨x,f,dm,lv,fv,hc⟩:=h.cells;obtain⟨n0,II,hm⟩:=h.roots;have CN:w.cell? ⟨E.t,11,none⟩=some (.map (some E.rm)):=hc.cell 11;have lt:=hc.lt;have FC:=sh fun(W:AI)=>abD E.rm W;have sf:=sh (Rk hm (by omega));have hS:=(cj hE F).old h.at_;have HW:=sh h;have HS:=sh hS;have HE:=sh hE;have HKK:=sh hk;have HM:=sh hm;clear h hc hm hS hE hk;go_enter func109,ntmps109
 go_wp2_with fail
 refine(FC.out _).mono ?_;rintro e w0 ⟨rfl,rfl⟩;go_wp2_with fail
 refine sf.out.mono ?_;rintro e w1 ⟨v,ns,rfl,cg,kT,hlen,au,ar⟩;have Zw:No w.heap.size w w1:=((IN _ w).alloc (AS _) (.cells #[.map (some E.rm)] 101)).trans (ar.mono (by simp));obtain⟨A,c,rfl,QH,dC,hnl,fF,mT⟩:=cT au;clear hnl;have bh:=sh Zw;have Ka:=sh fF;have FB:=sh (show ∀a,A=some a->a.block∉S from fun a ha hs=>by have:=(mT a ha).1;have:=HS.out _ hs;omega);have Ps:=sh kT;have si:=sh cg;have nT:∀n∈ns,∃r,Fo.R n=some r:=fun n hn=>by
  have:=(Ps.out n).1 hn;unfold dy at this;cases hr:Fo.R n with
  | none=>rw[hr]at this;cases this
  | some r=>exact⟨r,rfl⟩
 have oj:ns.length<=Fo.NS.length:=jd ns Fo.NS cg (fun n hn=>by obtain⟨r,hr⟩:=nT n hn;exact(HW.out.ok.law n r hr).2);have ad4:=sh nT;have CI:=sh oj;have hnl:ns.length<=1000000:=by omega
 have DW:c<=9223372036854775807:=by unfold abi at dC;omega
 have HKQ:=sh (show F\/Fo.NS.length*q<=k from HKK.out);have xQ:=sh qZ;have h0:Hid (∃G σ' S' k',Told E F w1 S k Fo ns q 0 w1 G σ' S' k'):=⟨Fo,σ,S,k,rfl,rfl,fun n=>by simp[Forest.known],agE _ _,HW.out.ok,by
  have:=(HW.out.below HE.out bh.out).at_;have hr:({ E with root:=(Fo.main.root:Int) }:Kv)=E:=by rw[<-HW.out.root]
  rw[hr];exact this,by omega,ah.refl S w1,aj.refl _ _⟩
 clear au ar Zw fF mT kT cg hlen nT oj qZ CN HKK sf;go_wp2_with fail
 go_loopw [16] (fun i wr=>∃j:Nat,i= .int .i64 j/\j<=ns.length/\Hid (∃G σ' S' k',Told E F w1 S k Fo ns q j wr G σ' S' k')) (fun i _=>ns.length-(intOf i).toNat)
 case atStart=>exact⟨0,rfl,Nat.zero_le _,h0⟩
 case round=>
  obtain⟨j,rfl,hj,hI⟩:=hrel;obtain⟨G,σj,Sj,kj,hT⟩:=hI.out;by_cases aI:j<ns.length
  ·have z1:decide ((j:Int)<(ns.length:Int))=true:=decide_eq_true (by omega)
   have bG:ah S w wr:=(ah.ae bh.out S).trans hT.off;obtain⟨nm,qj⟩:∃nm,nm=ns[j]:=⟨_,rfl⟩;have Mr:nm∈ns:=by rw[qj];exact List.getElem_mem aI
   obtain⟨r,hr⟩:=ad4.out nm Mr;have cW:ns.take (j+1)=ns.take j++[nm]:=by rw[qj];exact List.take_succ_eq_append_getElem aI
   have qk:nm∉ns.take j:=fun hm=>by
    have h1:(ns.take (j+1)).Nodup:=List.Nodup.sublist (List.take_sublist _ _) si.out;rw[cW]at h1;exact(aai.1 h1).2.2 nm hm nm (by simp) rfl
   have Xa:G.R nm=some r:=by rw[hT.R nm,if_neg (fun h=>qk (Forest.eB.1 h))];exact hr
   obtain⟨hre,dv⟩:=hT.ok.law nm r Xa;have hrs:r<512:=by rw[hre];exact(hT.ok.each nm).small
   have hnv:=hT.ok.valid nm dv;obtain⟨b,o,rfl,hb,fU⟩:=(Ka.out.off hT.off FB.out) j (.string nm) (by rw[qj];simp[aI]);obtain⟨x3,f3,FU,Kq,vZ,Gu,F0,iw,Gp,dx⟩:=hT.at_;have q11:wr.cell? ⟨E.t,11,none⟩=some (.map (some E.rm)):=iw.cells.cell 11;have q3:wr.cell? ⟨E.t,3,none⟩=some (.int .i64 (G.main.root:Nat)):=iw.cells.cell 3;have XD:E.t<wr.heap.size:=iw.cells.lt;have Mj:(acW 101 (.map (some E.rm)) (.string nm) false).run prog wr= .ok (.int .i64 r) wr:=by
    have h1:=(HM.out.off bG HW.out.rm).look underlying9 underlying101 (z:= .int .i64 0) (by kernel_rfl) (s:=nm) (by have:=hnv.2;unfold abi;omega);unfold dy at h1;rw[hr]at h1;exact h1
   by_cases gr:r=0
   ·have alA:(acW 101 (.map (some E.rm)) (.string nm) false).run prog wr= .ok (.int .i64 0) wr:=by rw[Mj,gr];rfl
    have hjn:j+1<=Fo.NS.length:=by have:=CI.out;omega
    have zj:F\/q<=kj:=HKQ.out.imp id (fun h9=>by
     have h1:=hT.cost;have h2:=adb q hjn;rw[Nat.succ_mul]at h2;omega)
    have vy:=cj (HE.out.E4 (G.main.root:Nat)) F;have Mn:=(aai.1 hT.ok.nodup).1;have AM:Tr.fa σj q G.main.root G.main.P G.main.L:=xQ.out _ _ hT.ok hT.NS;have YN:=sh fun(W:AI) (hb:No wr.heap.size wr W)=>(FT vy (vy.below hT.at_ hb) G.main.root AM Mn nm zj).mono fun e w' h=>h.three;have HT:=sh hT;have HSJ:=sh (vy.old hT.at_);have HAB:=sh fun(W:AI) (hb:No wr.heap.size wr W)=>vy.below hT.at_ hb;rw[gr]at Xa;have pM:=sh (show ns.take (j+1)=ns.take j++[nm]/\G.R nm=some 0 from ⟨cW,Xa⟩);clear hT hI h0 iw Gp dx qk cW Xa hre dv hnv hr qj Mr zj vy Mn bG AM Mj hrs gr;go_wp2_with fail
    first
     | refine(YN.out _ (IN _ _)).mono ?_
     | refine(YN.out _ (IN _ _).drew).mono ?_
    rintro e w4 (⟨root,rfl,Ko⟩|⟨rfl,Ko⟩|⟨rfl,Ko⟩)
    ·obtain⟨hx,P',σ',S',k',uZ,jE,cL,ko,bS,bZ⟩:=Ko.out
     obtain⟨q34,f34,lt4⟩:w4.cell? ⟨E.t,3,none⟩=some (.int .i64 (G.main.root:Nat))/\w4.frozen? ⟨E.t,3,none⟩=false/\E.t<w4.heap.size:=by
      obtain⟨x4,f4,CO,Je,Hc,C0,CP,kK,-⟩:=cL;exact⟨kK.cells.cell 3,kK.cells.frozen 3,kK.cells.lt⟩
     have HN:=sh (qI HT.out pM.out.1 (t:=⟨root,P',Tr.eL nm G.main.L⟩) (Fi HT.out.ok pM.out.2 uZ jE.toMoved) (Nat.le_trans (Tr.LB _ _) (Nat.le_succ _)) cL ko bS bZ);clear hx uZ jE cL ko bS bZ Ko;go_wp2_with fail
     go_roundw
     case rel=>first|exact⟨j+1,by go_num,by omega,HN⟩|((repeat apply acD);exact⟨⟨j+1,by go_num,by omega,HN⟩,rfl⟩)
     case measure=>simp[intOf];omega
    ·obtain⟨hF,σ',S',cL,bS,bZ⟩:=Ko.out
     obtain⟨x4,f4,CO,Je,Hc,C0,CP,kK,Wg,fE⟩:=cL;have q34:w4.cell? ⟨E.t,3,none⟩=some (.int .i64 (G.main.root:Nat)):=kK.cells.cell 3;have f34:=kK.cells.frozen 3;have lt4:E.t<w4.heap.size:=kK.cells.lt;have iO:Bk (w4.setCell ⟨E.t,3,none⟩ (.int .i64 0)) E.t 103 (aT { E with root:=0 } x4 f4 CO C0 CP):=by
      have:=kK.cells.put 3 (.int .i64 0);exact this
     have Kk:=bd.other (E':={ E with root:=0 }) kK iO ((ah.refl [E.t] w4).setCell (p:=⟨E.t,3,none⟩) (.inl (by simp)) _) ⟨rfl,rfl,rfl,rfl,rfl,rfl,rfl,rfl,rfl,rfl,rfl,rfl,rfl,rfl,rfl,rfl,rfl,rfl,rfl⟩;have V9:E.t∈S':=by rw[kK.blocks];simp[aB]
     have kV:ah Sj wr (w4.setCell ⟨E.t,3,none⟩ (.int .i64 0)):=bS.setCell (p:=⟨E.t,3,none⟩) (bZ _ V9) _;have bV:=sh (show ow E F S k q Fo w (.returned (.int .i64 9)) (w4.setCell ⟨E.t,3,none⟩ (.int .i64 0)) from
      .inr ⟨hF,rfl,0,σ',S',⟨x4,f4,CO,Je,Hc,C0,CP,Kk,Wg,fE.other ⟨rfl,rfl,rfl,rfl,rfl,rfl⟩⟩,(ah.ae bh.out S).trans (HT.out.off.then kV HT.out.fresh),(HT.out.fresh.trans bZ HT.out.off.size).mono bh.out.size⟩)
     clear kK Wg fE iO Kk V9 kV bS bZ Ko;go_wp2_with fail
     go_ret
     exact bV.out
    ·obtain⟨iP,b7⟩:=Ko.out
     have eO:No wr.heap.size wr w4:=by
      first
       | exact b7
       | exact(IN _ _).drew.trans (b7.mono (AS _))
     have cL:=HAB.out w4 eO;obtain⟨q34,f34,lt4⟩:w4.cell? ⟨E.t,3,none⟩=some (.int .i64 (G.main.root:Nat))/\w4.frozen? ⟨E.t,3,none⟩=false/\E.t<w4.heap.size:=by
      obtain⟨x4,f4,CO,Je,Hc,C0,CP,kK,-⟩:=cL;exact⟨kK.cells.cell 3,kK.cells.frozen 3,kK.cells.lt⟩
     have HN:=sh (qI HT.out pM.out.1 (t:=G.main) (JM HT.out.ok pM.out.2 iP) (Nat.le_succ _) cL (agE _ _) (ah.ae eO Sj) (aj.refl _ _));clear iP b7 eO cL Ko;go_wp2_with fail
     go_roundw
     case rel=>first|exact⟨j+1,by go_num,by omega,HN⟩|((repeat apply acD);exact⟨⟨j+1,by go_num,by omega,HN⟩,rfl⟩)
     case measure=>simp[intOf];omega
   have z2:((r:Int)==0)=false:=by rw[beq_eq_false_iff_ne];omega
   have z3:(r==0)=false:=by rw[beq_eq_false_iff_ne];omega
   have y3:IntKind.u64.wrap (r:Int)=r:=by rw[IntKind.wrap_u64];omega
   obtain⟨s,hs⟩:∃s:ByteArray,s=(⟨#[]⟩:ByteArray)++⟨(Be.low r 4).toArray⟩:=⟨_,rfl⟩;have V3:s.data.toList=Be.low r 4:=by rw[hs];simp
   have QT:s.size=4:=by
    have:s.data.toList.length=4:=by rw[V3,Be.aq]
    rw[Array.length_toList]at this;exact this
   have HPF:=sh fun(W:AI)=>(show Calls prog 160 #[.string ⟨#[]⟩,.int .u64 r,.int .i64 4] W (cU s 0 W) from by rw[hs];exact gR ⟨#[]⟩ r 4 W (by show 0<=1000000;omega) (by omega) (by omega) (by omega));have hjn:j+1<=Fo.NS.length:=by have:=CI.out;omega
   have zj:F\/q<=kj:=HKQ.out.imp id (fun h9=>by
    have h1:=hT.cost;have h2:=adb q hjn;rw[Nat.succ_mul]at h2;omega)
   have vy:=cj (HE.out.E4 (G.main.root:Nat)) F;have Mn:=(aai.1 hT.ok.nodup).1;have AM:Tr.fa σj q G.main.root G.main.P G.main.L:=xQ.out _ _ hT.ok hT.NS;have hpz:Tr.pieces s.size=0:=by rw[QT];rfl
   have aak:F\/q+Tr.pieces s.size<=kj:=by
    rw[hpz];exact zj.imp id (fun h9=>by omega)
   have HPZ:=sh hpz;have HTP:=sh fun(W:AI) (hb:No wr.heap.size wr W)=>(show Calls prog 48 #[.iface 111 (.agg #[.pointer (some ⟨E.t,0,none⟩)]),.int .i64 (G.main.root:Nat),.string nm,.string s] W (fun e w'=>∃a b:Int,e= .returned (.tuple #[.int .i64 a,.int .i64 b])/\Hid (oy (gu { E with root:=(G.main.root:Nat) } F) Sj σj kj q G.main.P G.main.L nm s W (.returned (.tuple #[.int .i64 a,.int .i64 b])) w')) from
    (GF vy (vy.below hT.at_ hb) G.main.root AM Mn nm s hnv.1 (by have:=hnv.2;omega) (by omega) aak).mono fun e w' ⟨y,e1,e2,e3,e4⟩=>by
     obtain⟨a,b,rfl,h5⟩:=e4.letters;exact⟨a,b,rfl,sh ⟨y,e1,e2,e3,h5.out⟩⟩)
   have HT:=sh hT;have HSJ:=sh (vy.old hT.at_);have pM:=sh (show nm∉ns.take j/\ns.take (j+1)=ns.take j++[nm]/\G.R nm=some r/\r≠0/\s.data.toList=Be.low r 4/\Fo.R nm=some r from ⟨qk,cW,Xa,gr,V3,hr⟩);clear hT hI h0 iw Gp dx qk cW Xa gr hre dv hnv V3 hs hr qj Mr zj vy Mn bG AM aak hpz;go_wp2_with fail
   refine(HPF.out _).mono ?_;rintro e w2 ⟨rfl,az⟩;have bz:=sh az;have q3':w2.cell? ⟨E.t,3,none⟩=some (.int .i64 (G.main.root:Nat)):=(az.cell (p:=⟨E.t,3,none⟩) XD).trans q3;have Q4:E.t<w2.heap.size:=Nat.lt_of_lt_of_le XD az.size;clear az q3 q11 Mj fU;go_wp2_with fail
   refine(HTP.out _ bz.out).mono ?_;rintro e w4 ⟨a,b9,rfl,Ko⟩;obtain⟨y,e1,e2,e3,e4⟩:=Ko.out;rcases e4 with⟨root,P',σ',S',k',e5,uZ,jE,cL,ko,bS,bZ⟩|⟨hF,e5,σ',S',cL,bS,bZ⟩
   ·injection e5 with e5
    injection e5 with e5;simp only[agC,adz,agp,true_and,and_true]at e5;obtain⟨rfl,rfl⟩:=e5;rw[HPZ.out]at ko;have Mt:ah Sj wr w4:=(ah.ae bz.out Sj).trans bS;have IA:aj wr Sj S':=bZ.mono bz.out.size;obtain⟨q34,f34,lt4⟩:w4.cell? ⟨E.t,3,none⟩=some (.int .i64 (G.main.root:Nat))/\w4.frozen? ⟨E.t,3,none⟩=false/\E.t<w4.heap.size:=by
     obtain⟨x4,f4,CO,Je,Hc,C0,CP,kK,-⟩:=cL;exact⟨kK.cells.cell 3,kK.cells.frozen 3,kK.cells.lt⟩
    have HN:=sh (qI HT.out pM.out.2.1 (t:=⟨root,P',Tr.dL nm y G.main.L⟩) (Fj HT.out.ok pM.out.2.2.1 pM.out.2.2.2.1 e1 (by rw[e2];exact pM.out.2.2.2.2.1) uZ jE.toMoved) (Tr.BX nm y G.main.L) cL (by omega) Mt IA);clear cL Mt IA uZ jE ko bS bZ Ko e1 e2 e3;go_wp2_with fail
    go_roundw
    case rel=>first|exact⟨j+1,by go_num,by omega,HN⟩|((repeat apply acD);exact⟨⟨j+1,by go_num,by omega,HN⟩,rfl⟩)
    case measure=>simp[intOf];omega
   ·injection e5 with e5
    injection e5 with e5;simp only[agC,adz,agp,true_and,and_true]at e5;obtain⟨rfl,rfl⟩:=e5;obtain⟨x4,f4,CO,Je,Hc,C0,CP,kK,Wg,fE⟩:=cL;have q34:w4.cell? ⟨E.t,3,none⟩=some (.int .i64 (G.main.root:Nat)):=kK.cells.cell 3;have f34:=kK.cells.frozen 3;have lt4:E.t<w4.heap.size:=kK.cells.lt;have iO:Bk (w4.setCell ⟨E.t,3,none⟩ (.int .i64 0)) E.t 103 (aT { E with root:=0 } x4 f4 CO C0 CP):=by
     have:=kK.cells.put 3 (.int .i64 0);exact this
    have Kk:=bd.other (E':={ E with root:=0 }) kK iO ((ah.refl [E.t] w4).setCell (p:=⟨E.t,3,none⟩) (.inl (by simp)) _) ⟨rfl,rfl,rfl,rfl,rfl,rfl,rfl,rfl,rfl,rfl,rfl,rfl,rfl,rfl,rfl,rfl,rfl,rfl,rfl⟩;have V9:E.t∈S':=by rw[kK.blocks];simp[aB]
    have Mt:ah Sj wr w4:=(ah.ae bz.out Sj).trans bS;have IA:aj wr Sj S':=bZ.mono bz.out.size;have kV:ah Sj wr (w4.setCell ⟨E.t,3,none⟩ (.int .i64 0)):=Mt.setCell (p:=⟨E.t,3,none⟩) (IA _ V9) _;have bV:=sh (show ow E F S k q Fo w (.returned (.int .i64 9)) (w4.setCell ⟨E.t,3,none⟩ (.int .i64 0)) from
     .inr ⟨hF,rfl,0,σ',S',⟨x4,f4,CO,Je,Hc,C0,CP,Kk,Wg,fE.other ⟨rfl,rfl,rfl,rfl,rfl,rfl⟩⟩,(ah.ae bh.out S).trans (HT.out.off.then kV HT.out.fresh),(HT.out.fresh.trans IA HT.out.off.size).mono bh.out.size⟩)
    clear kK Wg fE iO Kk V9 Mt IA kV bS bZ Ko e1 e2 e3;go_wp2_with fail
    go_ret
    exact bV.out
  ·have z1:decide ((j:Int)<(ns.length:Int))=false:=decide_eq_false (by omega)
   have vo:j=ns.length:=by omega
   have Pj:=sh (show ow E F S k q Fo w (.returned (.int .i64 0)) wr from .inl ⟨rfl,G,σj,Sj,kj,hT.tr,hT.NS,fun n=>by
    rw[hT.R n,vo,List.take_length];split
    ·rfl
    ·next II=>
     have hn:n∉ns:=fun h=>II (Forest.eB.2 h);cases hr:Fo.R n with
     | none=>rfl
     | some r=>exact absurd ((Ps.out n).2 (by unfold dy;rw[hr];rfl)) hn,hT.ok,hT.at_,by
    have h1:=hT.cost;have h2:=adb q CI.out;rw[vo]at h1;omega,(ah.ae bh.out S).trans hT.off,hT.fresh.mono bh.out.size⟩)
   clear hT hI h0;go_wp2_with fail
   go_ret
   exact Pj.out
end Go.Proofs.YtjbcbnemdhbhbaaGreatDoor
