import Derived.Test.YtjbcbnemdhbhbaaGreatDoorB27
import Derived.Test.YtjbcbnemdhbhbaaGreatDoorB28
import Derived.Test.YtjbcbnemdhbhbaaGreatDoorB30
set_option maxRecDepth 100000
set_option linter.unusedVariables false
set_option linter.unusedSimpArgs false
set_option maxHeartbeats 40000000
open Array.mk renaming injEq→agC
open Go renaming Calls→aag,Value→IS,World→AI,maxLen→abi
open Go.ByteArray renaming toList_eq→abY
open Go.Instr renaming lookup→acW
open Go.Lib renaming hid→sh
open Go.Value renaming int→acK,ownBlock→aaU
open Go.Value.int renaming injEq→agp
open List renaming mem_cons→IT,mem_singleton→By,nodup_append→aai,nodup_cons→abN
open List.cons renaming injEq→adz
open Option renaming mem_toList→abz
open Option.some renaming inj→adW
namespace Go.Proofs.YtjbcbnemdhbhbaaGreatDoor
open Go.Proofs.Tryz
open Go.RowKit
theorem JV{E:Kv}{w:AI}{S:List Nat}{x:Tx}{f dm nn:Nat}{Sf:List Nat}{lv fv:IS}(h:bd E w S [] x f dm nn Sf lv fv)(n:Nat)(hd:x.ax n=none)(hb:x.book E.cF E.U n≠none):
  aag prog 317 #[.agg #[.pointer (some ⟨E.t,0,none⟩)],.int .i64 n] w (fun e w'=>e= .returned (.int .i64 0)/\jo E S [] { x with aM:=x.aM++[n] } w w'):=by
 obtain⟨hu,hnf,aaO,-⟩:=h.ok.free hd hb;have hr:=h.ok.range.2.2.2.1 n hu;have hle:=h.ok.le;have kS:=h.ok.lim;have hn:n<512:=by omega
 have c5:w.cell? ⟨E.t,5,none⟩=some (.int .i64 x.aa):=h.cells.cell 5;have c8:w.cell? ⟨E.t,8,none⟩=some (.map (some dm)):=h.cells.cell 8;have lt:=h.cells.lt;have XC:E.t<w.heap.size+1:=by omega
 have Q4:E.t<w.heap.size+1+1:=by omega
 have hl:∀W,ah [] w W->(acW 100 (.map (some dm)) (.int .i64 n) true).run prog W= .ok (.tuple #[.agg #[.int .i64 0,.int .i64 0,.int .i64 0,.string ⟨#[]⟩],.bool false]) W:=fun W hW=>by
  have:=pj h n hn W hW;rw[hd]at this;exact this
 have HL:=sh (hl (w.alloc (.cells #[.pointer (some ⟨E.t,0,none⟩)] 111)) ((ah.refl [] w).alloc _));have Xp:=HL.out;obtain⟨A,c,hv,hA,dC⟩:=bg h.aM;have q10:w.cell? ⟨E.t,10,none⟩=some fv:=h.cells.cell 10;have f10:=h.cells.frozen 10;have hlen:x.aM.length<=512:=by
  have h1:=Tr.pf 512 x.aM h.ok.aM (fun b hb=>by have:=h.ok.range.2.2.2.1 b (h.ok.sub b hb);omega);exact h1
 obtain⟨i0,hi,ef,dK,dY⟩:=info_parts iz;have Dg:=sh h;have eJ:=sh h.aM;have rN:=sh hv;have adI:=sh aaO;obtain⟨m,rX⟩:∃m,m=x.aM.length:=⟨_,rfl⟩;have vY:=sh rX;have Bh:fv= .slice A m c:=by rw[rX];exact hv
 rw[<-rX]at hlen eJ;rw[Bh]at q10 eJ;have bf:=eJ.out;have uN:=sh Bh;have WW:=sh (show aaU (.slice A m c)≠some E.t from bP bf h.cells (by decide));have HCN:=sh (show ∀W,ah [] w W->aag prog 157 #[.slice A m c,.int .i64 n] W (fun e w'=>e= .returned (.bool false)/\W=w') from fun W hW=>by
  rw[rX];exact qO (Sl.eG (by have h1:=hW.own bf (by simp);rw[rX]at h1;exact h1)) (by rw[<-rX];omega) n hnf)
 have z1:decide ((n:Int)<1)=false:=decide_eq_false (by omega);have z2:decide ((x.aa:Int)<=(n:Int))=false:=decide_eq_false (by omega);have z3:decide (x.aa<=n)=false:=decide_eq_false (by omega);clear h hl hv hA dC hr hle kS hd Bh rX hu hnf aaO hb;go_enter func317,ntmps317
 go_wp2_with fail
 (with_reducible refine(HCN.out _ ?_).mono ?_)
 ·exact((ah.refl [] w).alloc _).alloc _
 rintro e w2 ⟨rfl,rfl⟩;have AP:ah [] w ((w.alloc (.cells #[.pointer (some ⟨E.t,0,none⟩)] 111)).alloc (.cells #[.int .i64 0,.int .i64 0,.int .i64 0,.string ⟨#[]⟩] 126)):=((ah.refl [] w).alloc _).alloc _;have vz:((w.alloc (.cells #[.pointer (some ⟨E.t,0,none⟩)] 111)).alloc (.cells #[.int .i64 0,.int .i64 0,.int .i64 0,.string ⟨#[]⟩] 126)).heap.size=w.heap.size+2:=by simp
 have Ua:=sh (Dg.out.off AP (by simp));generalize (w.alloc (.cells #[.pointer (some ⟨E.t,0,none⟩)] 111)).alloc (.cells #[.int .i64 0,.int .i64 0,.int .i64 0,.string ⟨#[]⟩] 126)=w2 at AP vz Ua |-;have Yu:=sh AP;have ajZ:=sh vz;have amP:w2.cell? ⟨E.t,10,none⟩=some (.slice A m c):=by have:=Ua.out.cells.cell 10;rw[uN.out]at this;exact this
 have akw:=Ua.out.cells.frozen 10;have lt':=Ua.out.cells.lt;have VQ:=AP.own bf (by simp);clear AP vz q10 f10 c5 c8 Xp;go_wp2_with (first
  | (at_builtin;refine wpList_append_lies _ rfl (.tmp 58) (.tmp 60) 51 rfl 0 3 i0 (.int .i64 0) 1 8 underlying51 hi ef dK dY rfl (by omega) (.slice A m c) m (ints x.aM) rfl (VQ.alloc _) ⟨w2.heap.size,0,none⟩ 1 1 [.int .i64 n] rfl rfl (World.news_of_block (cs:= #[.int .i64 n]) (heap_alloc_new w2 _)) (gD [n]) (by omega) (by unfold abi;omega) (by omega) (by simp) (w2.heap.size+1) (by simp) ?_;intro gg gA w3 aw aF df tB;have lK:=(aF.block E.t (by simp;omega) (fun e=>WW.out e.symm)).trans (Ua.out.cells.alloc (.cells #[.int .i64 n] 3));have y0:w3.cell? ⟨E.t,10,none⟩=some fv:=Bk.cell lK 10;have y1:=Bk.frozen lK 10;have y2:=Bk.lt lK)
  | fail)
 all_goals
  go_ret
  have lO:ah (E.t::(aaU (.slice A m c)).toList) w2 (w3.setCell ⟨E.t,10,none⟩ (.slice (some ⟨gg,0,none⟩) (m+1) gA)):=
   (((ah.refl _ w2).alloc (.cells #[.int .i64 n] 3)).grown aF (fun g hg=> .inl (by rw[hg];simp))).setCell (.inl (by simp)) _
  have hgt:gg≠E.t:=fun e=>by
   have:=bP aw lK (by decide);rw[e]at this;exact this rfl
  have kp:ah [E.t] w3 (w3.setCell ⟨E.t,10,none⟩ (.slice (some ⟨gg,0,none⟩) (m+1) gA)):=(ah.refl _ _).setCell (.inl (by simp)) _;have bm:=bd.grow (x':={ x with aM:=x.aM++[n] }) (lv':=lv) (fv':= .slice (some ⟨gg,0,none⟩) (m+1) gA) Ua.out (hd':=[]) ?_ lO (fun b hb=> ?_) rfl rfl ?_ ?_ (fun g hg=> .inl hg) (fun g hg=> ?_) (.inl rfl) adI.out
  ·obtain⟨S3,f3,FU,Kq,vZ,Gu,F0,k1,k2,k3⟩:=bm
   exact⟨rfl,S3,f3,FU,Kq,vZ,Gu,F0,k1,(Yu.out.mono (by simp)).trans k2,k3.mono Yu.out.size⟩
  ·exact Bk.put lK 10 (.slice (some ⟨gg,0,none⟩) (m+1) gA)
  ·rcases IT.1 hb with rfl|hb
   ·exact .inl rfl
   ·rw[abz]at hb
    exact .inr (.inr (by rw[uN.out];exact hb))
  ·have h8:=Ua.out.loose
   exact lO.own h8 (fun b hb hs=>by
    have cg:=Dg.out.nodup;unfold aB at cg;have n1:=abN.1 cg;have n2:=abN.1 n1.2;have n3:=aai.1 n2.2;rcases IT.1 hs with rfl|hs
    ·exact n1.1 (by simp[hb])
    ·rw[abz]at hs
     exact n3.2.2 b (by simp[hb]) b (by rw[uN.out];simp[hs]) rfl)
  ·have h9:=kp.own aw (fun b hb hs=>by
    rw[By]at hs;subst hs;exact hgt (by simpa[aaU]using hb))
   show World.ownsRow _ 0 _ 1 _ (x.aM++[n]).length (ints (x.aM++[n]));rw[List.length_append,lW,<-vY.out];exact h9
  ·have e:gg=g:=by simpa[aaU]using hg
   subst e;rcases df with h9|h9
   ·exact .inl (by rw[uN.out];exact h9)
   ·exact .inr (by omega)
theorem cj{E:Kv}(hE:E.Ok)(F:Prop):dc (gu E F) where
 off:=by
  rintro w w' S U σ k ⟨x,f,dm,nn,Sf,lv,fv,h,hσ,hk⟩ ho hU;exact⟨x,f,dm,nn,Sf,lv,fv,h.off ho hU,hσ,hk⟩
 old:=by
  rintro w S σ k ⟨x,f,dm,nn,Sf,lv,fv,h,hσ,hk⟩;exact h.old
 less:=by
  rintro w S σ k k' ⟨x,f,dm,nn,Sf,lv,fv,h,hσ,hk⟩ ko;exact⟨x,f,dm,nn,Sf,lv,fv,h,hσ,hk.less ko⟩
 load:=by
  refine⟨318,.agg #[.pointer (some ⟨E.t,0,none⟩)],fun W=>by kernel_rfl,fun W=>by kernel_rfl,fun args W=>by kernel_rfl,?_⟩;rintro w S σ k no p ⟨x,f,dm,nn,Sf,lv,fv,h,rfl,hk⟩ hp;cases hd:x.ax no with
  | some q=>
   have e:q=p:=by unfold Tx.book at hp;rw[hd]at hp;exact adW hp
   subst e;exact JY h no q hd
  | none=>
   have lR:E.cF no=some p/\no∈E.U:=by
    unfold Tx.book at hp;rw[hd]at hp;simp only at hp;by_cases hc:no∈E.U/\no∉x.aM
    ·rw[if_pos hc]at hp;exact⟨hp,hc.1⟩
    ·rw[if_neg hc]at hp;cases hp
   exact Fx hE h no p hd lR.2 lR.1
 drop:=by
  refine⟨317,.agg #[.pointer (some ⟨E.t,0,none⟩)],fun W=>by kernel_rfl,fun W=>by kernel_rfl,fun args W=>by kernel_rfl,?_⟩;rintro w S σ k no ⟨x,f,dm,nn,Sf,lv,fv,h,rfl,hk⟩ hp;by_cases hd:x.ax no=none
  ·obtain⟨h1,h2,h3,h4⟩:=h.ok.free hd hp
   refine(JV h no hd hp).mono ?_;rintro e w' ⟨rfl,S',f',UQ,tX,UC,lv',fv',k1,k2,k3⟩;exact⟨rfl,S',⟨_,f',UQ,tX,UC,lv',fv',k1,h4.symm,hk.free _⟩,k2,k3⟩
  ·obtain⟨h1,h2⟩:=h.ok.EA hd
   refine(JW h no hd).mono ?_;rintro e w' ⟨rfl,S',f',UQ,tX,UC,lv',fv',k1,k2,k3⟩;refine⟨rfl,S',⟨_,f',UQ,tX,UC,lv',fv',k1,h2.symm,hk.EA hd⟩,k2,k3⟩
 make:=by
  refine⟨319,.agg #[.pointer (some ⟨E.t,0,none⟩)],fun W=>by kernel_rfl,fun W=>by kernel_rfl,fun args W=>by kernel_rfl,?_⟩;rintro w S σ k p ⟨x,f,dm,nn,Sf,lv,fv,h,rfl,hk⟩ hF dw dx hb;refine(JZ hE h p (by omega)).mono ?_;rintro e w' (⟨n,x',rfl,ey,fi,S',f',UQ,tX,UC,lv',fv',k1,k2,k3⟩|⟨rfl,hs,S',f',UQ,tX,UC,lv',fv',k1,k2,k3⟩)
  ·have hr:=fi.range.2.2.2.2.2 n (by simp)
   have hle:=fi.le;have kS:=fi.lim;have aU:x'.book E.cF E.U=x.book E.cF E.U:=by
    have:=ey.ax;unfold Tx.book;rw[this.1,this.2]
   obtain⟨CX,VG⟩:=hk.take ey hF;refine .inl ⟨n,rfl,hr.1,by omega,by rw[<-aU];exact fi.Hn,S',⟨_,f',UQ,tX,UC,lv',fv',k1,by rw[Tx.Lq,aU],CX.lay VG p⟩,k2,k3⟩
  ·have hf:F:=by
    rcases hF with hF|hF
    ·exact hF
    ·have:=hk.sure;omega
   exact .inr ⟨hf,rfl,x.book E.cF E.U,S',⟨x,f',UQ,tX,UC,lv',fv',k1,rfl,hk.zero⟩,k2,k3⟩
theorem kC{w:AI}{t:Nat}{cs:Array IS}(h:Bk w t 103 cs)(mW:cs[13]? =some (.bool false)):aag prog 49 #[.pointer (some ⟨t,0,none⟩)] w (fun e w'=>e= .returned (.int .i64 0)/\w=w'):=by
 have wh:=(h.cell 13).trans mW;have lt:=h.lt;clear h mW;go_enter func49,ntmps49
 go_wp2_with fail
 go_ret
 exact⟨rfl,rfl⟩
theorem pA(t:Nat)(w:AI):aag prog 47 #[.pointer (some ⟨t,0,none⟩),.int .i64 0] w (fun e w'=>e= .returned (.int .i64 0)/\w=w'):=by
 go_enter func47,ntmps47
 go_wp2_with fail
 go_ret
 exact⟨rfl,rfl⟩
def dy (R:ByteArray->Option Nat):ByteArray->Option IS:=fun n=>(R n).map fun(r:Nat)=>acK .i64 r
structure Wr (E:Kv) (F:Prop) (w:AI) (S:List Nat) (σ :ag) (k:Nat) (Fo:Forest) (nr:Nat):Prop where
 at_:(gu E F).At w S σ k
 roots:∃n,n<=nr/\SMap prog 9 w E.rm n (dy Fo.R)
 rm:E.rm∉S
 ok:Fo.Ok σ
 root:E.root=Fo.main.root
 open_:E.over=false
 first:E.bQ=0
theorem Wr.cells{E:Kv}{F:Prop}{w:AI}{S:List Nat}{σ :ag}{k nr:Nat}{Fo:Forest}(h:Wr E F w S σ k Fo nr):∃(x:Tx) (f dm:Nat) (lv fv:IS),Bk w E.t 103 (aT E x f dm lv fv):=by
 obtain⟨x,f,dm,nn,Sf,lv,fv,hm,-⟩:=h.at_;exact⟨x,f,dm,lv,fv,hm.cells⟩
theorem Wr.below{E:Kv}(hE:E.Ok){F:Prop}{w w':AI}{S:List Nat}{σ :ag}{k nr:Nat}{Fo:Forest}(h:Wr E F w S σ k Fo nr)(hb:Below w.heap.size w w'):Wr E F w' S σ k Fo nr:=by
 obtain⟨n0,h1,h2⟩:=h.roots;exact⟨(cj hE F).below h.at_ hb,⟨n0,h1,h2.off (ah.ae hb []) (by simp)⟩,h.rm,h.ok,h.root,h.open_,h.first⟩
theorem xC{E:Kv}(hE:E.Ok){F:Prop}{w:AI}{S:List Nat}{σ :ag}{k nr:Nat}{Fo:Forest}(h:Wr E F w S σ k Fo nr)(name:ByteArray)(hn:eg name):
  aag prog 46 #[.pointer (some ⟨E.t,0,none⟩),.string name] w (fun e w'=>e= .returned (.tuple #[.int .i64 (Fo.tr name).root,.int .i64 0])/\Below w.heap.size w w'):=by
 obtain⟨x,f,dm,lv,fv,hc⟩:=h.cells;obtain⟨n0,II,hm⟩:=h.roots;have CN:w.cell? ⟨E.t,11,none⟩=some (.map (some E.rm)):=hc.cell 11;have c3:w.cell? ⟨E.t,3,none⟩=some (.int .i64 E.root):=hc.cell 3;have lt:=hc.lt;have hl:∀W,ah [] w W->(acW 101 (.map (some E.rm)) (.string name) true).run prog W= .ok (.tuple #[(dy Fo.R name).getD (.int .i64 0),.bool (dy Fo.R name).isSome]) W:=fun W hW=>
  (hm.off hW (by simp)).Ng underlying9 underlying101 (z:= .int .i64 0) (by kernel_rfl) (by have:=hn.2;unfold abi;omega)
 have wQ:=h.root;rcases h.ok.root name with⟨r,e1,e2⟩|⟨e1,e2⟩
 ·have Mj:(acW 101 (.map (some E.rm)) (.string name) true).run prog w= .ok (.tuple #[.int .i64 r,.bool true]) w:=by
   have:=hl w (ah.refl _ _);unfold dy at this;rw[e1]at this;exact this
  rw[<-e2];clear h hm hl hc e1 e2 wQ;go_enter func46,ntmps46
  go_wp2_with fail
  go_ret2
  exact⟨rfl,Below.refl _ _⟩
 ·have Mj:(acW 101 (.map (some E.rm)) (.string name) true).run prog w= .ok (.tuple #[.int .i64 0,.bool false]) w:=by
   have:=hl w (ah.refl _ _);unfold dy at this;rw[e1]at this;exact this
  have HR:=sh (show aag prog 58 #[.iface 111 (.agg #[.pointer (some ⟨E.t,0,none⟩)]),.int .i64 Fo.main.root,.string name] w (fun e w'=>Below w.heap.size w w'/\∃r:Nat,e= .returned (.tuple #[.int .i64 r,.int .i64 0])/\bF Fo.main.L name r) from uj (cj hE F).toReads h.at_ Fo.main.root (h.ok.main.deep (aai.1 h.ok.nodup).1) h.ok.main.nE h.ok.names name hn.1 hn.2);have HF:=sh fun(r:Nat) (hr:bF Fo.main.L name r)=>bF.LQ h.ok.main.rising hr e2;rw[wQ]at c3;clear h hm hl hc e1 e2 wQ;go_enter func46,ntmps46
  go_wp2_with fail
  refine HR.out.mono ?_;rintro e w1 ⟨ar,r,rfl,hr⟩;have om:=HF.out r hr;have HB:=sh ar;subst om;clear ar hr;go_wp2_with fail
  go_ret2
  exact⟨rfl,HB.out⟩
theorem Rh{n:ByteArray}(h:1<=n.size):(n.toList==[])=false/\(n.toList==(⟨#[]⟩:ByteArray).toList)=false:=by
 have bL:(n.toList==[])=false:=by
  have:n.toList.length=n.size:=by rw[abY];rfl
  cases hl:n.toList with
  | nil=>rw[hl]at this;simp at this;omega
  | cons a t=>rfl
 refine⟨bL,?_⟩;have:(⟨#[]⟩:ByteArray).toList=[]:=by rw[abY]
 rw[this];exact bL
theorem uz{w:AI}{t:Nat}{cs:Array IS}(h:Bk w t 103 cs)(mW:cs[13]? =some (.bool false))(oK:cs[12]? =some (.int .i64 0))(name:ByteArray)(hn:eg name):
  aag prog 45 #[.pointer (some ⟨t,0,none⟩),.string name] w (fun e w'=>e= .returned (.int .i64 0)/\w=w'):=by
 have HM:=sh (kC h mW);have rQ:=(h.cell 12).trans oK;have lt:=h.lt;obtain⟨bL,VD⟩:=Rh hn.1;have z1:decide ((32:Int)<(name.size:Int))=false:=decide_eq_false (by have:=hn.2;omega);have z2:decide (32<name.size)=false:=decide_eq_false (by have:=hn.2;omega);clear h mW oK hn;go_enter func45,ntmps45
 go_wp2_with fail
 refine HM.out.mono ?_;rintro e w1 ⟨rfl,rfl⟩;go_wp2_with fail
 go_ret
 exact⟨rfl,rfl⟩
theorem Cs{w:AI}{t:Nat}{cs:Array IS}(h:Bk w t 103 cs)(x:Int)(hx:x≠0)(mW:∃v,cs[13]? =some v):aag prog 47 #[.pointer (some ⟨t,0,none⟩),.int .i64 x] w (fun e w'=>e= .returned (.int .i64 x)/\w'=w.setCell ⟨t,13,none⟩ (.bool true)):=by
 obtain⟨v,mW⟩:=mW;have wh:=(h.cell 13).trans mW;have f13:=h.frozen 13;have lt:=h.lt;have z1:(x==0)=false:=by rw[beq_eq_false_iff_ne];exact hx
 clear h mW;go_enter func47,ntmps47
 go_wp2_with fail
 go_ret
 exact⟨rfl,rfl⟩
theorem bd.other{E E':Kv}{w w':AI}{S hd:List Nat}{x:Tx}{f dm nn:Nat}{Sf:List Nat}{lv fv:IS}(h:bd E w S hd x f dm nn Sf lv fv)(hc:Bk w' E.t 103 (aT E' x f dm lv fv))(ho:ah [E.t] w w')
  (he:E'.t=E.t/\E'.b=E.b/\E'.q=E.q/\E'.r=E.r/\E'.g=E.g/\E'.T=E.T/\E'.Sd=E.Sd/\E'.P=E.P/\E'.D=E.D/\E'.s=E.s/\E'.txn=E.txn/\E'.limit=E.limit/\E'.U=E.U/\E'.pc=E.pc/\E'.cF=E.cF/\E'.c2=E.c2/\E'.c3=E.c3/\E'.c4=E.c4/\E'.ro=E.ro):
  bd E' w' S hd x f dm nn Sf lv fv:=by
 have hm:=h.nodup;unfold aB at hm;have ht:=(abN.1 hm).1;have bm:∀b∈E.still,b∉[E.t]:=fun b hb hs=>by
  rw[By]at hs;subst hs;exact h.apart E.t (by simp[aB]) hb
 have vp:∀b,b∈dm::(lv.ownBlock.toList++(fv.ownBlock.toList++Sf))->b∉[E.t]:=fun b hb hs=>by
  rw[By]at hs;subst hs;exact ht hb
 have h':bd E w S hd x f dm nn Sf lv fv:=h;obtain⟨a1,a2,a3,a4,a5,a6,a7,a8,a9,a10,a11,a12,a13,a14,a15,a16,a17,a18,a19⟩:=he;have jx:E'.still=E.still:=by unfold Kv.still;rw[a2,a3,a4,a6,a7]
 exact⟨by rw[a1];exact hc,h.free.off ho (fun b hb=>vp b (by simp[hb])),by rw[a11];exact h.map.off ho (vp _ (by simp)),h.nn,ho.own h.loose (fun b hb=>vp b (by simp[hb])),ho.own h.aM (fun b hb=>vp b (by simp[hb])),
  by rw[a2,a3,a4,a16,a17,a18];exact ho.bk h.db (bm _ (by simp[Kv.still])),by rw[a4,a10];exact ho.bk h.rd (bm _ (by simp[Kv.still])),by rw[a3,a6,a5,a8];exact h.pg.off ho (fun b hb=>bm b (by simp[Kv.still,hb])),
  by rw[a5,a7,a9];exact h.dev.off ho (fun b hb=>bm b (by simp[Kv.still,hb])),by rw[a19];exact h.row.off ho (bm _ (by simp[Kv.still])),by rw[a12,a15,a13,a14];exact h.ok,by rw[jx,a1];exact h.blocks,by rw[a1];exact h.nodup,by rw[jx,a1];exact h.apart⟩
def xW (E:Kv) (F:Prop) (S:List Nat) (σ :ag) (k c:Nat) (Fo:Forest) (nr:Nat) (name key val:ByteArray) (w:AI) (e:Ending) (w':AI):Prop:=
 (e= .returned (.int .i64 0)/\∃(y:En) (t:Tn) (σ':ag) (S':List Nat) (k':Nat),y.cell.key=key/\y.val=val.data.toList/\y.aa.length=Tr.pieces val.size/\t.L=Tr.dL key y (Fo.tr name).L/\Tr.aE 2 σ (Fo.tr name).P σ' t.P/\Wr E F w' S' σ' k' (Fo.put name t) (nr+1)/\k<=k'+(c+Tr.pieces val.size)/\ah (E.rm::S) w w'/\aj w S S')
 \/ (F/\e= .returned (.int .i64 9)/\∃(σ':ag) (S':List Nat),(gu { E with over:=true } F).At w' S' σ' 0/\ah S w w'/\aj w S S')
theorem Om{E:Kv}(hE:E.Ok){F:Prop}{w:AI}{S:List Nat}{σ :ag}{k nr:Nat}{Fo:Forest}(h:Wr E F w S σ k Fo nr)(nR:nr<=100000)(name key val:ByteArray)(hn:eg name)(dw:1<=key.size)(bO:key.size<=120)(hv:val.size<=4000)
  {c:Nat} (QS:Tr.fa σ c (Fo.tr name).root (Fo.tr name).P (Fo.tr name).L) (hk:F\/c+Tr.pieces val.size<=k):
  aag prog 12 #[.pointer (some ⟨E.t,0,none⟩),.string name,.string key,.string val] w (xW E F S σ k c Fo nr name key val w):=by
 obtain⟨x,f,dm,lv,fv,hc⟩:=h.cells;have HM:=sh (uz hc (by rw[show (aT E x f dm lv fv)[13]? =some (.bool E.over) from rfl,h.open_]) (by rw[show (aT E x f dm lv fv)[12]? =some (.int .i64 E.bQ) from rfl,h.first]) name hn);have HR:=sh (xC hE h name hn);have Mp:(Fo.tr name).P.Nodup:=by
  by_cases hc:name∈Fo.NS
  ·obtain⟨a,b,-,-,-,hp⟩:=h.ok.split hc
   exact(aai.1 (hp.nodup_iff.1 h.ok.nodup)).1
  ·rw[h.ok.out name hc];exact List.nodup_nil
 have hS:=(cj hE F).old h.at_;have HP:=sh fun(W:AI) (hb:Below w.heap.size w W)=>(show aag prog 48 #[.iface 111 (.agg #[.pointer (some ⟨E.t,0,none⟩)]),.int .i64 (Fo.tr name).root,.string key,.string val] W (fun e w'=>∃a b:Int,e= .returned (.tuple #[.int .i64 a,.int .i64 b])/\Hid (oy (gu E F) S σ k c (Fo.tr name).P (Fo.tr name).L key val W (.returned (.tuple #[.int .i64 a,.int .i64 b])) w')) from
  (GF (cj hE F) ((cj hE F).below h.at_ hb) (Fo.tr name).root QS Mp key val dw bO hv hk).mono fun e w' ⟨y,e1,e2,e3,e4⟩=>by
   obtain⟨a,b,rfl,h5⟩:=e4.letters;exact⟨a,b,rfl,sh ⟨y,e1,e2,e3,h5.out⟩⟩)
 have HW:=sh h;have HS:=sh hS;have lt:=hc.lt;clear h hc Mp hS QS hk dw bO hv;go_enter func12,ntmps12
 go_wp2_with fail
 refine HM.out.mono ?_;rintro e w1 ⟨rfl,rfl⟩;go_wp2_with fail
 refine HR.out.mono ?_;rintro e w2 ⟨rfl,az⟩;have bz:=sh az;clear az;go_wp2_with fail
 refine(HP.out _ bz.out).mono ?_;rintro e w3 ⟨a,b,rfl,mZ⟩;obtain⟨y,e1,e2,e3,e4⟩:=mZ.out;have HB:=sh bz.out;rcases e4 with⟨root,P',σ',S',k',e5,uZ,jE,cL,ko,bS,bZ⟩|⟨hF,e5,σ',S',cL,bS,bZ⟩
 ·injection e5 with e5
  injection e5 with e5;simp only[agC,adz,agp,true_and,and_true]at e5;obtain⟨rfl,rfl⟩:=e5;obtain⟨nr0,afB,CX⟩:=HW.out.roots;have qm:ah S w w3:=(ah.ae HB.out S).trans bS;have nP:aj w S S':=bZ.mono HB.out.size;have Ej:=CX.off qm HW.out.rm;obtain⟨w4,cm,ME,zi⟩:=(Ej.off ((ah.refl [] w3).drew) (by simp)).update underlying9 underlying101 (by unfold abi;omega) (s:=name) (by have:=hn.2;unfold abi;omega) (.int .i64 (root:Nat));obtain⟨w5,aa7,MF,SL⟩:=Ej.update underlying9 underlying101 (by unfold abi;omega) (s:=name) (by have:=hn.2;unfold abi;omega) (.int .i64 (root:Nat));obtain⟨x3,f3,FU,Kq,vZ,Gu,F0,iw,Gp,dx⟩:=cL;have q11:w3.cell? ⟨E.t,11,none⟩=some (.map (some E.rm)):=iw.cells.cell 11;have XD:=iw.cells.lt;have tH:E.rm∉S':=fun hs=>by
   rcases nP _ hs with h1|h1
   ·exact HW.out.rm h1
   ·have:=CX.lt;omega
  have tI:∀j,(if j=name then some (acK .i64 (root:Nat))else dy Fo.R j)=dy (Fo.put name ⟨root,P',Tr.dL key y (Fo.tr name).L⟩).R j:=fun j=>by
   unfold dy Forest.put;simp only;split<;>rfl
  have lL:∀w',SMap prog 9 w' E.rm (nr0+1) (fun j=>if j=name then some (acK .i64 (root:Nat))else dy Fo.R j)->ah [E.rm] w3 w'->xW E F S σ k c Fo nr name key val w (.returned (.int .i64 0)) w':=fun w' hr ho=>
   .inl ⟨rfl,y,⟨root,P',Tr.dL key y (Fo.tr name).L⟩,σ',S',k',e1,e2,e3,rfl,jE,
    ⟨(cj hE F).off ⟨x3,f3,FU,Kq,vZ,Gu,F0,iw,Gp,dx⟩ ho (fun b hb hs=>by rw[By]at hs;subst hs;exact tH hb),⟨nr0+1,by omega,by rw[<-(funext tI:_=dy _)];exact hr⟩,tH,HW.out.ok.put hn uZ jE.toMoved,by
     rw[HW.out.root];unfold Forest.put Forest.dB;split<;>rfl,HW.out.open_,HW.out.first⟩,ko,(qm.mono (fun b hb=> .inl (by simp[hb]))).trans (ho.mono (fun b hb=> .inl (by simp at hb;simp[hb]))),nP⟩
  have WO:=sh (lL w4 ME ((ah.refl [E.rm] w3).drew.grown zi (fun g hg=> .inl (by simp at hg;simp[hg]))));have HE5:=sh (lL w5 MF ((ah.refl [E.rm] w3).grown SL (fun g hg=> .inl (by simp at hg;simp[hg]))));clear lL tI CX Ej ME zi MF SL iw Gp dx uZ jE ko bS bZ qm nP mZ e1 e2 e3 tH;go_wp2_with fail
  go_ret
  first|exact WO.out|exact HE5.out
 ·injection e5 with e5
  injection e5 with e5;simp only[agC,adz,agp,true_and,and_true]at e5;obtain⟨rfl,rfl⟩:=e5;obtain⟨x3,f3,FU,Kq,vZ,Gu,F0,iw,Gp,dx⟩:=cL;have qm:ah S w w3:=(ah.ae HB.out S).trans bS;have nP:aj w S S':=bZ.mono HB.out.size;have XD:=iw.cells.lt;have oQ:Bk (w3.setCell ⟨E.t,13,none⟩ (.bool true)) E.t 103 (aT { E with over:=true } x3 f3 FU Gu F0):=by
   have:=iw.cells.put 13 (.bool true);exact this
  have ht:E.t∈S':=by rw[iw.blocks];simp[aB]
  have bV:=sh (Cs iw.cells 9 (by decide) ⟨_,rfl⟩);have HE:=sh (show xW E F S σ k c Fo nr name key val w (.returned (.int .i64 9)) (w3.setCell ⟨E.t,13,none⟩ (.bool true)) from
   .inr ⟨hF,rfl,σ',S',⟨x3,f3,FU,Kq,vZ,Gu,F0,iw.other oQ ((ah.refl [E.t] w3).setCell (p:=⟨E.t,13,none⟩) (.inl (by simp)) _) ⟨rfl,rfl,rfl,rfl,rfl,rfl,rfl,rfl,rfl,rfl,rfl,rfl,rfl,rfl,rfl,rfl,rfl,rfl,rfl⟩,Gp,dx.other ⟨rfl,rfl,rfl,rfl,rfl,rfl⟩⟩,qm.setCell (p:=⟨E.t,13,none⟩) (by
    rcases nP _ ht with h1|h1
    ·exact .inl h1
    ·exact .inr h1) _,nP⟩)
  clear oQ ht iw Gp dx bS bZ qm nP mZ;go_wp2_with fail
  refine bV.out.mono ?_;rintro e w4 ⟨rfl,rfl⟩;go_wp2_with fail
  go_ret
  exact HE.out
end Go.Proofs.YtjbcbnemdhbhbaaGreatDoor
