import Derived.Test.YtjbcbnemdhbhbaaGreatDoorA27
import Derived.Test.YtjbcbnemdhbhbaaGreatDoorA30
import Derived.Test.YtjbcbnemdhbhbaaGreatDoorA14
import Derived.Test.YtjbcbnemdhbhbaaGreatDoorA31
import Derived.Test.YtjbcbnemdhbhbaaGreatDoorA23
import Derived.Test.YtjbcbnemdhbhbaaGreatDoorA24
set_option maxRecDepth 100000
set_option linter.unusedVariables false
set_option linter.unusedSimpArgs false
set_option maxHeartbeats 40000000
open Array.mk renaming injEq→agH
open Go renaming Calls→aaf,Value→No,World→AI,maxLen→abj
open Go.ByteArray renaming toList_eq→abV
open Go.Instr renaming lookup→acR
open Go.Lib renaming hid→sh
open Go.RowKit renaming Below→IT
open Go.Value renaming int→acs
open Go.Value.int renaming injEq→ags
open Go.World.ownsRow renaming lt→abq
open List renaming length_append→AT,mem_singleton→IN,nodup_append→aag,nodup_nil→aff
open List.cons renaming injEq→adx
open Nat renaming lt_of_lt_of_le→aal
namespace Go.Proofs.YtjbcbnemdhbhbaaGreatDoor
open Go.Proofs.Tryz
open Go.RowKit
theorem jv{w:AI}{t:Nat}{cs:Array No}(h:Bk w t 103 cs)(kT:cs[13]? =some (.bool false)):aaf prog 49 #[.pointer (some ⟨t,0,none⟩)] w (fun e w'=>e= .returned (.int .i64 0)/\w=w'):=by
 have vS:=(h.cell 13).trans kT;have lt:=h.lt;clear h kT;go_enter func49,ntmps49
 go_wp2_with fail
 go_ret
 exact⟨rfl,rfl⟩
theorem mZ(t:Nat)(w:AI):aaf prog 47 #[.pointer (some ⟨t,0,none⟩),.int .i64 0] w (fun e w'=>e= .returned (.int .i64 0)/\w=w'):=by
 go_enter func47,ntmps47
 go_wp2_with fail
 go_ret
 exact⟨rfl,rfl⟩
def dC (R:ByteArray->Option Nat):ByteArray->Option No:=fun n=>(R n).map fun(r:Nat)=>acs .i64 r
structure Wr (E:Kv) (F:Prop) (w:AI) (S:List Nat) (σ :ag) (k:Nat) (Fo:Forest) (nr:Nat):Prop where
 at_:(gA E F).At w S σ k
 roots:∃n,n<=nr/\SMap prog 9 w E.rm n (dC Fo.R)
 rm:E.rm∉S
 ok:Fo.Ok σ
 root:E.root=Fo.main.root
 open_:E.over=false
 first:E.bO=0
theorem Wr.cells{E:Kv}{F:Prop}{w:AI}{S:List Nat}{σ :ag}{k nr:Nat}{Fo:Forest}(h:Wr E F w S σ k Fo nr):∃(x:Tx) (f dm:Nat) (lv fv:No),Bk w E.t 103 (aO E x f dm lv fv):=by
 obtain⟨x,f,dm,nn,Sf,lv,fv,hm,-⟩:=h.at_;exact⟨x,f,dm,lv,fv,hm.cells⟩
theorem Wr.below{E:Kv}(hE:E.Ok){F:Prop}{w w':AI}{S:List Nat}{σ :ag}{k nr:Nat}{Fo:Forest}(h:Wr E F w S σ k Fo nr)(hb:IT w.heap.size w w'):Wr E F w' S σ k Fo nr:=by
 obtain⟨n0,h1,h2⟩:=h.roots;exact⟨(bK hE F).below h.at_ hb,⟨n0,h1,h2.off (ah.af hb []) (by simp)⟩,h.rm,h.ok,h.root,h.open_,h.first⟩
theorem qL{E:Kv}(hE:E.Ok){F:Prop}{w:AI}{S:List Nat}{σ :ag}{k nr:Nat}{Fo:Forest}(h:Wr E F w S σ k Fo nr)(name:ByteArray)(hn:dc name):
  aaf prog 46 #[.pointer (some ⟨E.t,0,none⟩),.string name] w (fun e w'=>e= .returned (.tuple #[.int .i64 (Fo.tr name).root,.int .i64 0])/\IT w.heap.size w w'):=by
 obtain⟨x,f,dm,lv,fv,hc⟩:=h.cells;obtain⟨n0,GD,hm⟩:=h.roots;have Da:w.cell? ⟨E.t,11,none⟩=some (.map (some E.rm)):=hc.cell 11;have c3:w.cell? ⟨E.t,3,none⟩=some (.int .i64 E.root):=hc.cell 3;have lt:=hc.lt;have hl:∀W,ah [] w W->(acR 101 (.map (some E.rm)) (.string name) true).run prog W= .ok (.tuple #[(dC Fo.R name).getD (.int .i64 0),.bool (dC Fo.R name).isSome]) W:=fun W hW=>
  (hm.off hW (by simp)).Nw underlying9 underlying101 (z:= .int .i64 0) (by kernel_rfl) (by have:=hn.2;unfold abj;omega)
 have xM:=h.root;rcases h.ok.root name with⟨r,e1,e2⟩|⟨e1,e2⟩
 ·have Mv:(acR 101 (.map (some E.rm)) (.string name) true).run prog w= .ok (.tuple #[.int .i64 r,.bool true]) w:=by
   have:=hl w (ah.refl _ _);unfold dC at this;rw[e1]at this;exact this
  rw[<-e2];clear h hm hl hc e1 e2 xM;go_enter func46,ntmps46
  go_wp2_with fail
  go_ret2
  exact⟨rfl,Below.refl _ _⟩
 ·have Mv:(acR 101 (.map (some E.rm)) (.string name) true).run prog w= .ok (.tuple #[.int .i64 0,.bool false]) w:=by
   have:=hl w (ah.refl _ _);unfold dC at this;rw[e1]at this;exact this
  have HR:=sh (show aaf prog 58 #[.iface 111 (.agg #[.pointer (some ⟨E.t,0,none⟩)]),.int .i64 Fo.main.root,.string name] w (fun e w'=>IT w.heap.size w w'/\∃r:Nat,e= .returned (.tuple #[.int .i64 r,.int .i64 0])/\bH Fo.main.L name r) from vc (bK hE F).toReads h.at_ Fo.main.root (h.ok.main.deep (aag.1 h.ok.nodup).1) h.ok.main.nV h.ok.names name hn.1 hn.2);have HF:=sh fun(r:Nat) (hr:bH Fo.main.L name r)=>bH.L3 h.ok.main.rising hr e2;rw[xM]at c3;clear h hm hl hc e1 e2 xM;go_enter func46,ntmps46
  go_wp2_with fail
  refine HR.out.mono ?_;rintro e w1 ⟨ar,r,rfl,hr⟩;have lW:=HF.out r hr;have HB:=sh ar;subst lW;clear ar hr;go_wp2_with fail
  go_ret2
  exact⟨rfl,HB.out⟩
theorem OA{E:Kv}(hE:E.Ok){F:Prop}{w:AI}{S:List Nat}{σ :ag}{k nr:Nat}{Fo:Forest}(h:Wr E F w S σ k Fo nr)(name key:ByteArray)(hn:dc name):
  aaf prog 17 #[.pointer (some ⟨E.t,0,none⟩),.string name,.string key] w (fun e w'=>IT w.heap.size w w'/\∃v,e= .returned v/\qP (Fo.tr name).L key v):=by
 obtain⟨x,f,dm,lv,fv,hc⟩:=h.cells;have HM:=sh (jv hc (by rw[show (aO E x f dm lv fv)[13]? =some (.bool E.over) from rfl,h.open_]));have HR:=sh (qL hE h name hn);have SL:Tr.Deep σ (Fo.tr name).root (Fo.tr name).L:=(h.ok.each name).deep (by
  by_cases hc:name∈Fo.NS
  ·obtain⟨a,b,-,-,-,hp⟩:=h.ok.split hc
   exact(aag.1 (hp.nodup_iff.1 h.ok.nodup)).1
  ·rw[h.ok.out name hc];exact aff)
 have HG:=sh fun(W:AI) (hb:IT w.heap.size w W)=>(show aaf prog 59 #[.iface 111 (.agg #[.pointer (some ⟨E.t,0,none⟩)]),.int .i64 (Fo.tr name).root,.string key] W (fun e w'=>IT W.heap.size W w'/\∃v,e= .returned v/\qP (Fo.tr name).L key v) from Gn (bK hE F).toReads ((bK hE F).below h.at_ hb) (Fo.tr name).root SL (h.ok.each name).nV key);have HE:=sh fun(W:AI)=>mZ E.t W;clear h hc SL;go_enter func17,ntmps17
 go_wp2_with fail
 refine HM.out.mono ?_;rintro e w1 ⟨rfl,rfl⟩;go_wp2_with fail
 refine HR.out.mono ?_;rintro e w2 ⟨rfl,aC⟩;have bm:=sh aC;clear aC;go_wp2_with fail
 refine(HG.out _ bm.out).mono ?_;rintro e w3 ⟨aN,v,rfl,hv⟩;have du:=sh (bm.out.trans (aN.mono bm.out.size));clear aN;rcases hv with⟨y,hy,hk,rfl⟩|⟨gd,rfl⟩
 ·have HV:=sh (show qP (Fo.tr name).L key (.tuple #[.string ⟨y.val.toArray⟩,.bool true,.int .i64 0]) from .inl ⟨y,hy,hk,rfl⟩)
  obtain⟨s,hs⟩:∃s,s=(⟨y.val.toArray⟩:ByteArray):=⟨_,rfl⟩;rw[<-hs]at HV |-;clear hs hy hk;go_wp2_with fail
  refine(HE.out _).mono ?_;rintro e w4 ⟨rfl,rfl⟩;go_wp2_with fail
  go_ret3
  exact⟨du.out,_,rfl,HV.out⟩
 ·have HV:=sh (show qP (Fo.tr name).L key (.tuple #[.string ⟨#[]⟩,.bool false,.int .i64 0]) from .inr ⟨gd,rfl⟩)
  clear gd;go_wp2_with fail
  refine(HE.out _).mono ?_;rintro e w4 ⟨rfl,rfl⟩;go_wp2_with fail
  go_ret3
  exact⟨du.out,_,rfl,HV.out⟩
theorem Rt{n:ByteArray}(h:1<=n.size):(n.toList==[])=false/\(n.toList==(⟨#[]⟩:ByteArray).toList)=false:=by
 have bM:(n.toList==[])=false:=by
  have:n.toList.length=n.size:=by rw[abV];rfl
  cases hl:n.toList with
  | nil=>rw[hl]at this;simp at this;omega
  | cons a t=>rfl
 refine⟨bM,?_⟩;have:(⟨#[]⟩:ByteArray).toList=[]:=by rw[abV]
 rw[this];exact bM
theorem vq{w:AI}{t:Nat}{cs:Array No}(h:Bk w t 103 cs)(kT:cs[13]? =some (.bool false))(oc:cs[12]? =some (.int .i64 0))(name:ByteArray)(hn:dc name):
  aaf prog 45 #[.pointer (some ⟨t,0,none⟩),.string name] w (fun e w'=>e= .returned (.int .i64 0)/\w=w'):=by
 have HM:=sh (jv h kT);have rY:=(h.cell 12).trans oc;have lt:=h.lt;obtain⟨bM,VG⟩:=Rt hn.1;have z1:decide ((32:Int)<(name.size:Int))=false:=decide_eq_false (by have:=hn.2;omega);have z2:decide (32<name.size)=false:=decide_eq_false (by have:=hn.2;omega);clear h kT oc hn;go_enter func45,ntmps45
 go_wp2_with fail
 refine HM.out.mono ?_;rintro e w1 ⟨rfl,rfl⟩;go_wp2_with fail
 go_ret
 exact⟨rfl,rfl⟩
theorem CQ{w:AI}{t:Nat}{cs:Array No}(h:Bk w t 103 cs)(x:Int)(hx:x≠0)(kT:∃v,cs[13]? =some v):aaf prog 47 #[.pointer (some ⟨t,0,none⟩),.int .i64 x] w (fun e w'=>e= .returned (.int .i64 x)/\w'=w.setCell ⟨t,13,none⟩ (.bool true)):=by
 obtain⟨v,kT⟩:=kT;have vS:=(h.cell 13).trans kT;have f13:=h.frozen 13;have lt:=h.lt;have z1:(x==0)=false:=by rw[beq_eq_false_iff_ne];exact hx
 clear h kT;go_enter func47,ntmps47
 go_wp2_with fail
 go_ret
 exact⟨rfl,rfl⟩
theorem bf.other{E E':Kv}{w w':AI}{S hd:List Nat}{x:Tx}{f dm nn:Nat}{Sf:List Nat}{lv fv:No}(h:bf E w S hd x f dm nn Sf lv fv)(hc:Bk w' E.t 103 (aO E' x f dm lv fv))(ho:ah [E.t] w w')
  (he:E'.t=E.t/\E'.b=E.b/\E'.q=E.q/\E'.r=E.r/\E'.g=E.g/\E'.T=E.T/\E'.Sd=E.Sd/\E'.P=E.P/\E'.D=E.D/\E'.s=E.s/\E'.txn=E.txn/\E'.limit=E.limit/\E'.U=E.U/\E'.pc=E.pc/\E'.cq=E.cq/\E'.c2=E.c2/\E'.c3=E.c3/\E'.c4=E.c4/\E'.ro=E.ro):
  bf E' w' S hd x f dm nn Sf lv fv:=by
 have hm:=h.nodup;unfold aB at hm;have ht:=(List.nodup_cons.1 hm).1;have aX:∀b∈E.still,b∉[E.t]:=fun b hb hs=>by
  rw[IN]at hs;subst hs;exact h.apart E.t (by simp[aB]) hb
 have wg:∀b,b∈dm::(lv.ownBlock.toList++(fv.ownBlock.toList++Sf))->b∉[E.t]:=fun b hb hs=>by
  rw[IN]at hs;subst hs;exact ht hb
 have h':bf E w S hd x f dm nn Sf lv fv:=h;obtain⟨a1,a2,a3,a4,a5,a6,a7,a8,a9,a10,a11,a12,a13,a14,a15,a16,a17,a18,a19⟩:=he;have jC:E'.still=E.still:=by unfold Kv.still;rw[a2,a3,a4,a6,a7]
 exact⟨by rw[a1];exact hc,h.free.off ho (fun b hb=>wg b (by simp[hb])),by rw[a11];exact h.map.off ho (wg _ (by simp)),h.nn,ho.own h.loose (fun b hb=>wg b (by simp[hb])),ho.own h.aK (fun b hb=>wg b (by simp[hb])),
  by rw[a2,a3,a4,a16,a17,a18];exact ho.bk h.db (aX _ (by simp[Kv.still])),by rw[a4,a10];exact ho.bk h.rd (aX _ (by simp[Kv.still])),by rw[a3,a6,a5,a8];exact h.pg.off ho (fun b hb=>aX b (by simp[Kv.still,hb])),
  by rw[a5,a7,a9];exact h.dev.off ho (fun b hb=>aX b (by simp[Kv.still,hb])),by rw[a19];exact h.row.off ho (aX _ (by simp[Kv.still])),by rw[a12,a15,a13,a14];exact h.ok,by rw[jC,a1];exact h.blocks,by rw[a1];exact h.nodup,by rw[jC,a1];exact h.apart⟩
def yH (E:Kv) (F:Prop) (S:List Nat) (σ :ag) (k c:Nat) (Fo:Forest) (nr:Nat) (name key val:ByteArray) (w:AI) (e:Ending) (w':AI):Prop:=
 (e= .returned (.int .i64 0)/\∃(y:En) (t:Tn) (σ':ag) (S':List Nat) (k':Nat),y.cell.key=key/\y.val=val.data.toList/\y.aa.length=Tr.pieces val.size/\t.L=Tr.dB key y (Fo.tr name).L/\Tr.aE 2 σ (Fo.tr name).P σ' t.P/\Wr E F w' S' σ' k' (Fo.put name t) (nr+1)/\k<=k'+(c+Tr.pieces val.size)/\ah (E.rm::S) w w'/\aj w S S')
 \/ (F/\e= .returned (.int .i64 9)/\∃(σ':ag) (S':List Nat),(gA { E with over:=true } F).At w' S' σ' 0/\ah S w w'/\aj w S S')
theorem OC{E:Kv}(hE:E.Ok){F:Prop}{w:AI}{S:List Nat}{σ :ag}{k nr:Nat}{Fo:Forest}(h:Wr E F w S σ k Fo nr)(nk:nr<=100000)(name key val:ByteArray)(hn:dc name)(dy:1<=key.size)(bR:key.size<=120)(hv:val.size<=4000)
  {c:Nat} (Q8:Tr.ej σ c (Fo.tr name).root (Fo.tr name).P (Fo.tr name).L) (hk:F\/c+Tr.pieces val.size<=k):
  aaf prog 12 #[.pointer (some ⟨E.t,0,none⟩),.string name,.string key,.string val] w (yH E F S σ k c Fo nr name key val w):=by
 obtain⟨x,f,dm,lv,fv,hc⟩:=h.cells;have HM:=sh (vq hc (by rw[show (aO E x f dm lv fv)[13]? =some (.bool E.over) from rfl,h.open_]) (by rw[show (aO E x f dm lv fv)[12]? =some (.int .i64 E.bO) from rfl,h.first]) name hn);have HR:=sh (qL hE h name hn);have MC:(Fo.tr name).P.Nodup:=by
  by_cases hc:name∈Fo.NS
  ·obtain⟨a,b,-,-,-,hp⟩:=h.ok.split hc
   exact(aag.1 (hp.nodup_iff.1 h.ok.nodup)).1
  ·rw[h.ok.out name hc];exact aff
 have hS:=(bK hE F).old h.at_;have HP:=sh fun(W:AI) (hb:IT w.heap.size w W)=>(show aaf prog 48 #[.iface 111 (.agg #[.pointer (some ⟨E.t,0,none⟩)]),.int .i64 (Fo.tr name).root,.string key,.string val] W (fun e w'=>∃a b:Int,e= .returned (.tuple #[.int .i64 a,.int .i64 b])/\Hid (oH (gA E F) S σ k c (Fo.tr name).P (Fo.tr name).L key val W (.returned (.tuple #[.int .i64 a,.int .i64 b])) w')) from
  (G8 (bK hE F) ((bK hE F).below h.at_ hb) (Fo.tr name).root Q8 MC key val dy bR hv hk).mono fun e w' ⟨y,e1,e2,e3,e4⟩=>by
   obtain⟨a,b,rfl,h5⟩:=e4.letters;exact⟨a,b,rfl,sh ⟨y,e1,e2,e3,h5.out⟩⟩)
 have HW:=sh h;have HS:=sh hS;have lt:=hc.lt;clear h hc MC hS Q8 hk dy bR hv;go_enter func12,ntmps12
 go_wp2_with fail
 refine HM.out.mono ?_;rintro e w1 ⟨rfl,rfl⟩;go_wp2_with fail
 refine HR.out.mono ?_;rintro e w2 ⟨rfl,aC⟩;have bm:=sh aC;clear aC;go_wp2_with fail
 refine(HP.out _ bm.out).mono ?_;rintro e w3 ⟨a,b,rfl,nE⟩;obtain⟨y,e1,e2,e3,e4⟩:=nE.out;have HB:=sh bm.out;rcases e4 with⟨root,P',σ',S',k',e5,sY,jJ,cG,kz,bB,bU⟩|⟨hF,e5,σ',S',cG,bB,bU⟩
 ·injection e5 with e5
  injection e5 with e5;simp only[agH,adx,ags,true_and,and_true]at e5;obtain⟨rfl,rfl⟩:=e5;obtain⟨nr0,afz,Dg⟩:=HW.out.roots;have qv:ah S w w3:=(ah.af HB.out S).trans bB;have oj:aj w S S':=bU.mono HB.out.size;have EI:=Dg.off qv HW.out.rm;obtain⟨w4,bZ,MW,zQ⟩:=(EI.off ((ah.refl [] w3).drew) (by simp)).update underlying9 underlying101 (by unfold abj;omega) (s:=name) (by have:=hn.2;unfold abj;omega) (.int .i64 (root:Nat));obtain⟨w5,aa6,MX,SP⟩:=EI.update underlying9 underlying101 (by unfold abj;omega) (s:=name) (by have:=hn.2;unfold abj;omega) (.int .i64 (root:Nat));obtain⟨x3,f3,Gg,KG,xc,GU,Gm,kU,GP,cO⟩:=cG;have q11:w3.cell? ⟨E.t,11,none⟩=some (.map (some E.rm)):=kU.cells.cell 11;have XC:=kU.cells.lt;have uz:E.rm∉S':=fun hs=>by
   rcases oj _ hs with h1|h1
   ·exact HW.out.rm h1
   ·have:=Dg.lt;omega
  have uA:∀j,(if j=name then some (acs .i64 (root:Nat))else dC Fo.R j)=dC (Fo.put name ⟨root,P',Tr.dB key y (Fo.tr name).L⟩).R j:=fun j=>by
   unfold dC Forest.put;simp only;split<;>rfl
  have lS:∀w',SMap prog 9 w' E.rm (nr0+1) (fun j=>if j=name then some (acs .i64 (root:Nat))else dC Fo.R j)->ah [E.rm] w3 w'->yH E F S σ k c Fo nr name key val w (.returned (.int .i64 0)) w':=fun w' hr ho=>
   .inl ⟨rfl,y,⟨root,P',Tr.dB key y (Fo.tr name).L⟩,σ',S',k',e1,e2,e3,rfl,jJ,
    ⟨(bK hE F).off ⟨x3,f3,Gg,KG,xc,GU,Gm,kU,GP,cO⟩ ho (fun b hb hs=>by rw[IN]at hs;subst hs;exact uz hb),⟨nr0+1,by omega,by rw[<-(funext uA:_=dC _)];exact hr⟩,uz,HW.out.ok.put hn sY jJ.toMoved,by
     rw[HW.out.root];unfold Forest.put Forest.dF;split<;>rfl,HW.out.open_,HW.out.first⟩,kz,(qv.mono (fun b hb=> .inl (by simp[hb]))).trans (ho.mono (fun b hb=> .inl (by simp at hb;simp[hb]))),oj⟩
  have WW:=sh (lS w4 MW ((ah.refl [E.rm] w3).drew.grown zQ (fun g hg=> .inl (by simp at hg;simp[hg]))));have HE5:=sh (lS w5 MX ((ah.refl [E.rm] w3).grown SP (fun g hg=> .inl (by simp at hg;simp[hg]))));clear lS uA Dg EI MW zQ MX SP kU GP cO sY jJ kz bB bU qv oj nE e1 e2 e3 uz;go_wp2_with fail
  go_ret
  first|exact WW.out|exact HE5.out
 ·injection e5 with e5
  injection e5 with e5;simp only[agH,adx,ags,true_and,and_true]at e5;obtain⟨rfl,rfl⟩:=e5;obtain⟨x3,f3,Gg,KG,xc,GU,Gm,kU,GP,cO⟩:=cG;have qv:ah S w w3:=(ah.af HB.out S).trans bB;have oj:aj w S S':=bU.mono HB.out.size;have XC:=kU.cells.lt;have oY:Bk (w3.setCell ⟨E.t,13,none⟩ (.bool true)) E.t 103 (aO { E with over:=true } x3 f3 Gg GU Gm):=by
   have:=kU.cells.put 13 (.bool true);exact this
  have ht:E.t∈S':=by rw[kU.blocks];simp[aB]
  have bX:=sh (CQ kU.cells 9 (by decide) ⟨_,rfl⟩);have HE:=sh (show yH E F S σ k c Fo nr name key val w (.returned (.int .i64 9)) (w3.setCell ⟨E.t,13,none⟩ (.bool true)) from
   .inr ⟨hF,rfl,σ',S',⟨x3,f3,Gg,KG,xc,GU,Gm,kU.other oY ((ah.refl [E.t] w3).setCell (p:=⟨E.t,13,none⟩) (.inl (by simp)) _) ⟨rfl,rfl,rfl,rfl,rfl,rfl,rfl,rfl,rfl,rfl,rfl,rfl,rfl,rfl,rfl,rfl,rfl,rfl,rfl⟩,GP,cO.other ⟨rfl,rfl,rfl,rfl,rfl,rfl⟩⟩,qv.setCell (p:=⟨E.t,13,none⟩) (by
    rcases oj _ ht with h1|h1
    ·exact .inl h1
    ·exact .inr h1) _,oj⟩)
  clear oY ht kU GP cO bB bU qv oj nE;go_wp2_with fail
  refine bX.out.mono ?_;rintro e w4 ⟨rfl,rfl⟩;go_wp2_with fail
  go_ret
  exact HE.out
def my (l:List (Nat×Nat)) (w:AI) (e:Ending) (w':AI):Prop:=∃f2 S2,e= .returned (.tuple #[.pointer (some ⟨f2,0,none⟩),.int .i64 0])/\rT w' f2 S2 l/\IT w.heap.size w w'/\∀b∈S2,w.heap.size<=b
structure DE (w:AI) (t:Nat) (fr:List (Nat×Nat)) (ms:List Nat) (f2:Nat) (A3:Option Addr) (j:Nat) (w':AI) (S2:List Nat):Prop where
 list:rT w' f2 S2 (Fr.aY t fr (ms.take j))
 below:IT w.heap.size w w'
 new:∀b∈S2,w.heap.size<=b
 row:Sl w' A3 (ints ms)
 apart:∀a,A3=some a->a.block∉S2
theorem yj{E:Kv}(hE:E.Ok){w:AI}{S hd:List Nat}{x:Tx}{f dm nn:Nat}{Sf:List Nat}{lv fv:No}(h:bf E w S hd x f dm nn Sf lv fv)(BC:w.ownsRow 0 3 1 E.c3 E.pc.length (ints E.pc)){A:Option Addr}{c:Nat}(lR:Sl w A (ints hd)):
  aaf prog 110 #[.pointer (some ⟨E.t,0,none⟩),.slice A hd.length c] w (my (Fr.aY E.txn x.fr (x.more E.pc)) w):=by
 obtain⟨bI,dw,hlen⟩:=h.ok.spare;have TA:=h.ok.sorted;have hle:=h.ok.le;have kA:=h.ok.lim;have TD:=hE.J1;have HC:=sh (xw h.free (by omega));obtain⟨Al,cl,VA,-,-⟩:=aV h.loose;obtain⟨Af,cf,hfv,-,-⟩:=aV h.aK;obtain⟨Ap,cp,Xy,-,-⟩:=aV BC;have vO:=sh (show Sl w Al (ints x.loose) from Sl.dh (by have:=h.loose;rw[VA]at this;exact this));have YH:=sh (show Sl w Af (ints x.aK) from Sl.dh (by have:=h.aK;rw[hfv]at this;exact this));have F1:=sh (show Sl w Ap (ints E.pc) from Sl.dh (by have:=BC;rw[Xy]at this;exact this));have bD:=sh (show ∀W,IT w.heap.size w W->W.cell? ⟨E.t,10,none⟩=some (.slice Af x.aK.length cf)/\W.cell? ⟨E.t,9,none⟩=some (.slice Al x.loose.length cl)/\W.cell? ⟨E.t,0,none⟩=some (.pointer (some ⟨E.b,0,none⟩))/\W.cell? ⟨E.b,3,none⟩=some (.slice Ap E.pc.length cp)/\W.cell? ⟨E.t,1,none⟩=some (.int .i64 E.txn) from fun W hW=>by
  have k1:=ae h.cells hW;have k2:=ae h.db hW;refine⟨?_,?_,k1.cell 0,?_,k1.cell 1⟩
  ·have:=k1.cell 10
   rw[<-hfv];exact this
  ·have:=k1.cell 9
   rw[<-VA];exact this
  ·have:=k2.cell 3
   rw[<-Xy];exact this)
 have Km:=sh (show x.aK.length+x.loose.length+E.pc.length<=10000 from by
  have:=hlen;unfold Tx.more at this;rw[AT,AT]at this;have:=h.ok.le;have:=h.ok.lim;omega)
 have Aj:=sh (show x.aK++(x.loose++E.pc)=x.more E.pc from rfl);have Hq:=sh lR;obtain⟨m1,mM⟩:∃m,m=hd.length:=⟨_,rfl⟩;have QR:hd.length<=1000:=by
  obtain⟨dk,k1,k2⟩:=h.ok.perm;have h1:=k2.length_eq;simp only[AT,gV,List.length_map,List.length_range]at h1;omega
 have Dx:=sh fun(W:AI) (hW:IT w.heap.size w W) (n:Nat) (hn:n∈x.more E.pc)=>qS (c:=c) (lR.below hW) (by omega) n (dw n hn).1;have HMS:=sh (show (∀j (hj:j<(x.more E.pc).length),Fr.Sorted (Fr.aY E.txn x.fr ((x.more E.pc).take j))/\(Fr.aY E.txn x.fr ((x.more E.pc).take j)).length=x.fr.length+j/\(x.more E.pc)[j]∉Fr.pg (Fr.aY E.txn x.fr ((x.more E.pc).take j))/\Fr.aY E.txn x.fr ((x.more E.pc).take (j+1))=Fr.ins (Fr.aY E.txn x.fr ((x.more E.pc).take j)) (E.txn,(x.more E.pc)[j])) from fun j hj=>Fr.Ib TA bI j hj);have yz:=sh (show ∀n∈x.more E.pc,Fr.ok (E.txn,n)=true from fun n hn=>by
  have:=(dw n hn).2;unfold Fr.ok;simp;omega)
 have Z4:x.fr.length+(x.more E.pc).length<=512:=by omega
 have lt:=h.cells.lt;have lb:=h.db.lt;have c7:w.cell? ⟨E.t,7,none⟩=some (.pointer (some ⟨f,0,none⟩)):=h.cells.cell 7;obtain⟨ms,hms⟩:∃ms,ms=x.more E.pc:=⟨_,rfl⟩;rw[<-hms]at Aj Dx HMS yz Z4 |-;obtain⟨fr,bU⟩:∃fr,fr=x.fr:=⟨_,rfl⟩;rw[<-bU]at HC HMS Z4 |-;obtain⟨fd,IY⟩:∃l,l=x.aK:=⟨_,rfl⟩;rw[<-IY]at YH bD Km Aj;obtain⟨ls,Tb⟩:∃l,l=x.loose:=⟨_,rfl⟩;rw[<-Tb]at vO bD Km Aj;obtain⟨pc,vJ⟩:∃l,l=E.pc:=⟨_,rfl⟩;rw[<-vJ]at F1 bD Km Aj;obtain⟨tx,abl⟩:∃l,l=E.txn:=⟨_,rfl⟩;rw[<-abl]at bD HMS yz TD |-;obtain⟨t,ht⟩:∃l,l=E.t:=⟨_,rfl⟩;rw[<-ht]at bD lt c7 |-;obtain⟨b,hb⟩:∃l,l=E.b:=⟨_,rfl⟩;rw[<-hb]at bD lb;clear h BC lR bI dw hlen TA hle kA VA hfv Xy hms bU IY Tb vJ abl ht hb hE mM;go_enter func110,ntmps110
 go_wp2_with fail
 refine HC.out.mono ?_;rintro e w1 ⟨f2,S2,rfl,uj,ar,oX⟩;have Kk:=sh uj;have bh:=sh ar;have KQ:=sh oX;clear uj ar oX c7;obtain⟨q10,q9,q0,p3,q1⟩:=bD.out w1 bh.out;have lt1:t<w1.heap.size:=aal lt bh.out.size;have lb1:b<w1.heap.size:=aal lb bh.out.size;have Ad:=sh fun(W:AI) (hb:IT w.heap.size w W) (k:Nat) (hk:Bk W k 51 #[.slice Af fd.length cf,.slice Al ls.length cl,.slice Ap pc.length cp])=>AB hk (YH.out.below hb) (vO.out.below hb) (F1.out.below hb) Km.out;rw[Aj.out]at Ad;have hbX:IT w.heap.size w ((w1.alloc (.cells #[.slice Af fd.length cf,.slice Al ls.length cl,.slice Ap pc.length cp] 51)).drew):=(bh.out.alloc bh.out.size _).drew;have HCX:=sh (Ad.out _ hbX w1.heap.size (Bk.new w1 _ _).drew);have ada:=sh (show rT ((w1.alloc (.cells #[.slice Af fd.length cf,.slice Al ls.length cl,.slice Ap pc.length cp] 51)).drew) f2 S2 fr from Kk.out.off (((ah.refl [] w1).alloc _).drew) (by simp));have jN:=sh hbX;have al9:w1.heap.size<((w1.alloc (.cells #[.slice Af fd.length cf,.slice Al ls.length cl,.slice Ap pc.length cp] 51)).drew).heap.size:=by simp
 have jO:=sh Kk.out.old;clear hbX Ad;go_wp2_with fail
 have kf:=sh (show ∀W,IT w.heap.size w W->W.cell? ⟨t,10,none⟩=some (.slice Af fd.length cf)/\W.cell? ⟨t,9,none⟩=some (.slice Al ls.length cl)/\W.cell? ⟨t,0,none⟩=some (.pointer (some ⟨b,0,none⟩))/\W.cell? ⟨b,3,none⟩=some (.slice Ap pc.length cp) from fun W hW=>⟨(bD.out W hW).1,(bD.out W hW).2.1,(bD.out W hW).2.2.1,(bD.out W hW).2.2.2.1⟩);go_region_held3 (fun W=>W.cell? ⟨t,10,none⟩=some (.slice Af fd.length cf)/\W.cell? ⟨t,9,none⟩=some (.slice Al ls.length cl)/\W.cell? ⟨t,0,none⟩=some (.pointer (some ⟨b,0,none⟩))/\W.cell? ⟨b,3,none⟩=some (.slice Ap pc.length cp)) (first|exact kf.out _ bh.out.drew|exact kf.out _ (bh.out.drew.alloc bh.out.drew.size _)|exact kf.out _ jN.out|exact kf.out _ (jN.out.trans (bm.out.mono jN.out.size))|trace_state) (first
  | (go_at_call 74;refine HCX.out.mono ?_;rintro e w2 ⟨aC,A3,c3,rfl,aU⟩;have bm:=sh aC;have fX:=sh aU;clear aC aU)
  | fail)
 all_goals
  clear q10 q9 q0 p3 q1;have sf:IT w.heap.size w w2:=jN.out.trans (bm.out.mono jN.out.size);have h0:Hid (DE w tx fr ms f2 A3 0 w2 S2):=⟨by simpa[Fr.aY]using ada.out.below bm.out,sf,KQ.out,Sl.dh fX.out,fun a ha hs=>by
   have h1:=(abq fX.out a.block (by
    obtain⟨A',c',hv,-,-,-,-,fV⟩:=bg fX.out;injection hv with Py BO hv3;subst Py hv3;exact(fV a ha).2)).1
   have h2:=jO.out _ hs;omega⟩
  have Et:ms.length<=512:=by omega
  have Eg:c3<=9223372036854775807:=by
   obtain⟨A',c',hv,-,cI,-⟩:=bg fX.out;injection hv with Py BO hv3;subst hv3;unfold abj at cI;omega
  clear sf;go_wp2_with fail
  go_loopw [32] (fun i wr=>∃j:Nat,i= .int .i64 j/\j<=ms.length/\Hid (∃Sj,DE w tx fr ms f2 A3 j wr Sj)) (fun i _=>ms.length-(intOf i).toNat)
  case atStart=>exact⟨0,rfl,Nat.zero_le _,sh ⟨S2,h0.out⟩⟩
  case round=>
   obtain⟨j,rfl,hj,hI⟩:=hrel;obtain⟨Sj,hT⟩:=hI.out;by_cases aH:j<ms.length
   ·have z1:decide ((j:Int)<(ms.length:Int))=true:=decide_eq_true (by omega)
    obtain⟨k1,k2,k3,k4⟩:=HMS.out j aH;obtain⟨n,hn⟩:∃n,n=ms[j]:=⟨_,rfl⟩;have sr:n∈ms:=by rw[hn];exact List.getElem_mem aH
    rw[<-hn]at k3 k4;obtain⟨b3,o3,rfl,aN,gb⟩:=ints_at hT.row j aH;rw[<-hn]at gb;obtain⟨-,-,-,-,r1⟩:=bD.out wr hT.below;have ltr:t<wr.heap.size:=aal lt hT.below.size;have XP:=sh (Dx.out wr hT.below n sr);have HAD:=sh (Qx hT.list k1 (by rw[k2];omega) (tx,n) (yz.out n sr) k3);rw[<-k4]at HAD;have HT:=sh hT;clear hT hI h0 k1 k2 k3 k4 hn sr;go_wp2_with fail
    refine XP.out.mono ?_;rintro e w4 ⟨rfl,rfl⟩;go_wp2_with fail
    refine HAD.out.mono ?_;rintro e w5 ⟨rfl,S5,Vz,Po,Pe⟩;have HN:=sh (show ∃Sj,DE w tx fr ms f2 (some ⟨b3,o3,none⟩) (j+1) w5 Sj from
     ⟨S5,Vz,((ah.af HT.out.below []).then Po (fun x hx=> .inr (HT.out.new x hx))).below (Nat.le_refl _) (by simp),fun x hx=>by
      rcases Pe x hx with h|h
      ·exact HT.out.new x h
      ·have:=HT.out.below.size;omega,HT.out.row.off Po HT.out.apart,fun a ha hs=>by
      rcases Pe _ hs with h|h
      ·exact HT.out.apart a ha h
      ·cases ha
       simp only at h;omega⟩)
    clear Vz Po Pe;go_wp2_with fail
    go_roundw
    case rel=>first|exact⟨j+1,by go_num,by omega,HN⟩|((repeat apply Exists.intro);exact⟨⟨j+1,by go_num,by omega,HN⟩,rfl⟩)
    case measure=>simp[intOf];omega
   ·have z1:decide ((j:Int)<(ms.length:Int))=false:=decide_eq_false (by omega)
    have sX:j=ms.length:=by omega
    have HE:=sh (show my (Fr.aY tx fr ms) w (.returned (.tuple #[.pointer (some ⟨f2,0,none⟩),.int .i64 0])) wr from ⟨f2,Sj,rfl,by
     have:=hT.list;rw[sX,List.take_length]at this;exact this,hT.below,hT.new⟩)
    clear hT hI h0;go_wp2_with fail
    go_ret2
    exact HE.out
end Go.Proofs.YtjbcbnemdhbhbaaGreatDoor
