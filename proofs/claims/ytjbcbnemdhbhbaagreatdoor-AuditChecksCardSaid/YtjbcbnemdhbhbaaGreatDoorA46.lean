import Derived.Test.YtjbcbnemdhbhbaaGreatDoorA45
set_option maxRecDepth 100000
set_option linter.unusedVariables false
set_option linter.unusedSimpArgs false
set_option maxHeartbeats 40000000
open Go renaming Value→No,World→AI,rounds_succ→abF,wp_loop_rounds→abP
open Go.Instr renaming makeFunc→agE
open Go.Lib renaming hid→sh
open Go.RowKit renaming Below→IT
open Go.RowKit.Below renaming refl→BY
open List renaming length_append→AT,length_map→IS,length_range→adT,mem_append→By,mem_cons→OF,mem_singleton→IN
open Nat renaming le_refl→AS
namespace Go.Proofs.YtjbcbnemdhbhbaaGreatDoor
open Go.Proofs.Tryz
open Go.RowKit
theorem JN{w:AI}{d:Di}{sp:Nat}{i:Int}{m:aR}{pv:No}{u:FrameMode}(h:fs w d)(hs:xe w sp d.b i m pv false)(sZ:sp∉d.blocks):CallsD prog 18 #[.pointer (some ⟨sp,0,none⟩)] u w (fun e u' w'=>u'=u/\∃n:Int,e= .returned (.int .i64 n)/\ah [sp,d.r] w w'/\fs w' { d with s:=(d.s.leave i).1 }):=by
 have HM:=sh (sQ hs);have ls:=Bk.lt hs;have lb:=h.top.lt;have s8:=Bk.cell hs 8;have f8:=Bk.frozen hs 8;have Wv:sp≠d.b:=fun e=>sZ (by rw[e];simp[Di.blocks]);have PD:sp≠d.r:=fun e=>sZ (by rw[e];simp[Di.blocks]);have nbr:d.b≠d.r:=Bk.ne h.top h.rd (by decide);have bB:ah [sp,d.r] w (w.setCell ⟨sp,8,none⟩ (.bool true)):=(ah.refl _ w).setCell (p:=⟨sp,8,none⟩) (.inl (by simp)) _;have ia:∀W,ah [d.r] (w.setCell ⟨sp,8,none⟩ (.bool true)) W->W.cell? ⟨sp,0,none⟩=some (.pointer (some ⟨d.b,0,none⟩))/\W.cell? ⟨d.b,1,none⟩=some (.pointer (some ⟨d.r,0,none⟩))/\W.cell? ⟨sp,1,none⟩=some (.int .i64 i):=fun W hW=>by
  have k1:=hW.bk (Bk.put hs 8 (.bool true)) (by simpa using PD);have k2:=hW.bk (h.top.vV (p:=⟨sp,8,none⟩) (Ne.symm Wv) (.bool true)) (by simpa using nbr);exact⟨k1.cell 0,k2.cell 1,k1.cell 1⟩
 have bD:=sh ia;have Tt:Bk (w.setCell ⟨sp,8,none⟩ (.bool true)) d.r 195 d.s.cells:=h.rd.vV (p:=⟨sp,8,none⟩) (Ne.symm PD) _;have HL:=sh (qx d.r i d.s (w.setCell ⟨sp,8,none⟩ (.bool true)).drew Tt.drew);obtain⟨s2,n2,sw⟩:∃s2 n2,d.s.leave i=(s2,n2):=⟨_,_,rfl⟩;rw[sw]at HL;have XS:=sh (show ∀W,ah [d.r] (w.setCell ⟨sp,8,none⟩ (.bool true)) W->Bk W d.r 195 s2.cells->fs W { d with s:=s2 } from fun W hW lW=>
  (h.off (U:=[sp]) ((ah.refl _ w).setCell (p:=⟨sp,8,none⟩) (.inl (by simp)) (.bool true)) (fun x hx hm=>by rw[IN]at hm;subst hm;exact sZ hx)).mV hW lW)
 have m6:=sh bB;have sJ:=sh sw;clear h hs ia Tt bB sw;obtain⟨b,q,r,f,g,T,Sf,P,s,fr,pv',gW,wv⟩:=d;simp only at *
 go_enter_d func18,ntmps18
 go_wp2_with fail
 refine HM.out.mono ?_;rintro e w1 ⟨rfl,rfl⟩;go_wp2_with fail
 go_region_held3 (fun W=>W.cell? ⟨sp,0,none⟩=some (.pointer (some ⟨b,0,none⟩))/\W.cell? ⟨b,1,none⟩=some (.pointer (some ⟨r,0,none⟩))/\W.cell? ⟨sp,1,none⟩=some (.int .i64 i)) (first|exact bD.out _ (ah.refl _ _).drew|exact bD.out _ jZ.out) (first
  | (go_at_call 60;refine HL.out.mono ?_;rintro e w2 ⟨rfl,lW,cP⟩;have gY:=sh lW;have jZ:=sh ((ah.refl [r] _).drew.trans cP);clear lW cP))
 all_goals
  go_wp2_with fail
  go_ret
  exact⟨_,rfl,m6.out.trans (jZ.out.mono (fun x hx=> .inl (by simp at hx;simp[hx]))),by rw[sJ.out];exact XS.out _ jZ.out gY.out⟩
theorem JA(v:No)(A B:Option Addr)(a b:Nat)(w:AI):Calls prog 86 #[v,.int .i64 1,.slice A 0 a,.slice B 0 b] w (fun e w'=>e= .returned (.tuple #[])/\IT w.heap.size w w'):=by
 have Xt:∀(fn:Fn) (first cap:Array No) (w:AI),(agE fn first cap).run prog w= .ok (.func fn first cap) w:=fun _ _ _ _=>rfl;obtain⟨cs,Es⟩:=Ch;go_enter func86,ntmps86
 go_wp2_with fail
 refine abP 2 ?_;rw[abF];go_wp2_with fail
 refine abP 2 ?_;rw[abF];go_wp2_with fail
 refine abP 2 ?_;rw[abF];go_wp2_with fail
 refine bodyPost_end (results_none rfl _ _ _) rfl ?_;exact⟨rfl,(((BY _ w).alloc (AS _) _).alloc (by simp) _).alloc (by simp;omega) _⟩
structure pU (w:AI) (d:Di) (Sd:List Nat) (D:DevS) (σ :ag) (Fo:Forest) (txn aa limit sp:Nat) (i:Int) (s1:St) (W:AI):Prop where
 db:fs W { d with s:=s1 }
 snap:xe W sp d.b i d.P.m d.pv false
 dev:Dev W d.g Sd D
 row:aS W
 off:ah [d.r] w W
def Di.kr (d:Di) (Sd:List Nat) (D:DevS) (σ :ag):Kr:=⟨d.q,d.g,d.T,Sd,d.P,D,σ⟩
theorem zY.kr{D:DevS}{d:Di}{σ :ag}{Fo:Forest}{txn aa limit:Nat}{Sd:List Nat}(h:zY D d.P d.fr d.gW σ Fo txn aa limit)(ht:txn<=1000):(d.kr Sd D σ).Ok:=by
 refine⟨h.calm.on,?_,fun n p hn=> ?_⟩
 ·show D.steps<=1000000000
  have:=h.steps;omega
 ·obtain⟨h1,t,h2⟩:=h.on n p hn
  have hm:=h.ok.full n (by rw[show σ n=some p from hn];simp);have h3:=(dA.1 (h.perm.mem_iff.1 (By.2 (.inr (By.2 (.inl hm)))))).2;have h4:=h.one.2;refine⟨h1,?_,t,h2⟩;show (n:Int)<d.P.m.l;rw[h.m];show (n:Int)<(limit:Int);omega
theorem pU.on{w W:AI}{d:Di}{Sd:List Nat}{D:DevS}{σ :ag}{Fo:Forest}{txn aa limit sp:Nat}{i:Int}{s1:St}(h:pU w d Sd D σ Fo txn aa limit sp i s1 W)(hp:zY D d.P d.fr d.gW σ Fo txn aa limit)(ht:txn<=1000):SnapOn W sp d.b (d.kr Sd D σ) i d.P.m d.pv Fo:=
 ⟨h.snap,⟨_,h.db.top,rfl⟩,hp.kr ht,h.db.pg,h.dev,h.row,hp.ok,hp.R,by rw[hp.m]⟩
theorem pU.below{w W W':AI}{d:Di}{Sd:List Nat}{D:DevS}{σ :ag}{Fo:Forest}{txn aa limit sp:Nat}{i:Int}{s1:St}(h:pU w d Sd D σ Fo txn aa limit sp i s1 W)(hb:IT W.heap.size W W'):pU w d Sd D σ Fo txn aa limit sp i s1 W':=
 ⟨h.db.below hb,ae h.snap hb,h.dev.below hb,h.row.below hb,h.off.trans (ah.af hb [d.r])⟩
def pT (w:AI) (d:Di) (Fo:Forest) (txn aa:Nat) (e:Ending) (w':AI):Prop:=
 e= .returned (.tuple #[.agg #[.int .i64 txn,.int .i64 ((aa-1:Nat):Int),.int .i64 ((Fo.aa.length+d.gW.length:Nat):Int),.int .i64 (d.fr.length:Nat),.int .i64 0,.int .i64 0,.int .i64 (Fo.main.L.length:Nat),.int .i64 ((Fo.dU Fo.main.L).length:Nat)],.int .i64 0])/\ah [d.r] w w'/\fs w' d
theorem DI{w:AI}{d:Di}{Sd:List Nat}{D:DevS}{σ :ag}{Fo:Forest}{txn aa limit:Nat}(h:fD w d Sd D σ Fo txn aa limit)(hs:d.s=St.empty)(ht:txn<=1000)(hT:(Fo.dU Fo.main.L).length<=1000)(hL:Fo.main.L.length<=1000):
  Calls prog 31 #[.pointer (some ⟨d.b,0,none⟩)] w (pT w d Fo txn aa):=by
 have hp:=h.plain;have m9:=sh hp;have HTX:=sh ht;have Ei:d.s.enter d.P.m.t=(⟨some (txn:Int),none,none,none⟩,0,0):=by
  have hir:mN (txn:Int)=true:=by unfold mN;rw[decide_eq_true (by omega),decide_eq_true (by omega)];rfl
  rw[hs,hp.m];show St.empty.enter (txn:Int)=_;unfold St.enter;rw[if_pos hir];rfl
 obtain⟨s1,nD⟩:∃s1:St,s1=⟨some (txn:Int),none,none,none⟩:=⟨_,rfl⟩;rw[<-nD]at Ei;have VA:s1.leave 0=(St.empty,0):=by rw[nD];rfl
 have gJ:=(BY _ w).alloc (AS _) (.cells (bW 0) 69);have sJ:=sh (WH (h.db.below gJ) Ei);have Xt:∀(fn:Fn) (first cap:Array No) (w:AI),(agE fn first cap).run prog w= .ok (.func fn first cap) w:=fun _ _ _ _=>rfl;have KR:=sh h.db.old;have WV:=sh h.dev.old;have HF:=sh h;have hlen:=hp.perm.length_eq;simp only[AT,Fr.pg,IS,gV,adT]at hlen;have eW:=hp.one;have kA:=hp.lim;obtain⟨rr,ff,ll,Xw⟩:∃rr ff ll:Int,d.P.m=⟨txn,rr,ff,aa,ll⟩:=⟨_,_,_,hp.m⟩;have Sc:=sh Xw;have qY:0≠d.r:=fun e=>by
  have h1:=h.row 0 (by omega);have h2:=h.db.rd.cell 0;rw[<-e]at h2;exact absurd (h1.symm.trans h2) (by simp[St.cells])
 have SM:d.r∉Sd:=h.ap.2.1;have nk:w.heap.size≠d.r:=by have:=h.db.rd.lt;omega
 have HDV:=sh h.dev;have oF:=sh h.row;obtain⟨Ap,cp,BC,-,pP⟩:=aV h.db.gW;have EF:Sl w Ap (ints d.gW):=by
  have h9:=h.db.gW;rw[BC]at h9;exact Sl.dh h9
 have HPV:=sh BC;have ajN:=sh EF;have bI:(Fo.aa++d.gW).Nodup:=(List.nodup_append.1 (hp.perm.nodup_iff.2 (gq aa))).2.1;have iS:(Fo.aa++d.gW).length<=1000:=by rw[AT];omega
 have O1:=sh fun(sp:Nat) (W:AI) (hc:pU w d Sd D σ Fo txn aa limit sp 0 s1 W)=>(show Calls prog 27 #[.pointer (some ⟨sp,0,none⟩)] W (tG (Fo.aa++d.gW) W) from by
  have h9:=hc.on hp ht;have h8:=aV hc.db.gW;have h7:=hc.db.gW;have e7:d.pv= .slice Ap d.gW.length cp:=HPV.out;have h6:W.ownsRow 0 3 1 d.pv d.gW.length (ints d.gW):=h7;rw[e7]at h9 h6;exact spages_any h9 (Sl.dh h6) pP bI iS)
 have Yc:=sh fun(sp:Nat) (W:AI) (hc:pU w d Sd D σ Fo txn aa limit sp 0 s1 W)=>(show Calls prog 14 #[.pointer (some ⟨d.b,0,none⟩)] W (xb ⟨txn,rr,ff,aa,ll⟩ W) from by rw[<-Xw];exact lI (d:={ d with s:=s1 }) hc.db);have sG:=sh fun(sp:Nat) (W:AI) (hc:pU w d Sd D σ Fo txn aa limit sp 0 s1 W)=>(show Calls prog 21 #[.pointer (some ⟨d.b,0,none⟩)] W (tj d.fr W) from Gf (d:={ d with s:=s1 }) hc.db (by show d.fr.length<=10000;omega));have OY:=sh fun(sp:Nat) (W:AI) (hc:pU w d Sd D σ Fo txn aa limit sp 0 s1 W)=>tJ (hc.on hp ht) (by omega);have HEA:=sh fun(sp rb:Nat) (cs:Array No) (W:AI) (hc:pU w d Sd D σ Fo txn aa limit sp 0 s1 W) (h0:F5 W rb cs 0) (hX:rb≠sp/\rb≠d.b/\rb∉(d.kr Sd D σ).blocks)=>LS (wz rb cs) (hc.on hp ht) h0 (fun x hx=>by rw[IN]at hx;subst hx;exact hX) (by omega) (by omega);have Tm:∀(m:List Nat),m.Perm (Fo.aa++d.gW)->(m++d.fr.map (·.2)).Nodup/\(∀k,1<=k->k<aa->k∈m++d.fr.map (·.2))/\(∀x∈m,1<=x/\x<aa)/\(∀x∈d.fr,1<=x.2/\x.2<aa):=fun m hm=>by
  have hq:(m++d.fr.map (·.2)).Perm (gV aa):=(List.perm_append_comm.trans (List.Perm.append_left _ hm)).trans hp.perm;refine⟨hq.nodup_iff.2 (gq aa),fun k h1 h2=>hq.mem_iff.2 (dA.2 ⟨h1,h2⟩),fun x hx=>dA.1 (hq.mem_iff.1 (by simp[hx])),fun x hx=>dA.1 (hq.mem_iff.1 (By.2 (.inr (List.mem_map_of_mem hx))))⟩
 have tC:=sh Tm;have OW:=sh (show ∀x∈(d.kr Sd D σ).blocks,x<w.heap.size from fun x hx=>by
  unfold Kr.blocks Di.kr at hx;simp only[OF,By]at hx;obtain⟨sl,lg,uy⟩:=h.db.pg;rcases hx with rfl|rfl|hx|hx
  ·exact h.db.old _ (by simp[Di.blocks,uy.zj.1])
  ·exact h.row.lt
  ·exact h.db.old x (by simp[Di.blocks,hx])
  ·exact h.dev.old x hx)
 have ajf:=sh h.db;obtain⟨tk,dY⟩:∃tk,tk=(Fo.dU Fo.main.L).length:=⟨_,rfl⟩;obtain⟨zX,VC⟩:∃zX,zX=Fo.main.L.length:=⟨_,rfl⟩;obtain⟨pk,Tp⟩:∃pk,pk=Fo.aa.length+d.gW.length:=⟨_,rfl⟩;obtain⟨fl,uj⟩:∃fl,fl=d.fr.length:=⟨_,rfl⟩;have alo:fl<=1000:=by omega
 have HCP:=sh (show ∀e w',e= .returned (.tuple #[.agg #[.int .i64 txn,.int .i64 ((aa-1:Nat):Int),.int .i64 (pk:Nat),.int .i64 (fl:Nat),.int .i64 0,.int .i64 0,.int .i64 (zX:Nat),.int .i64 (tk:Nat)],.int .i64 0])->ah [d.r] w w'->fs w' d->pT w d Fo txn aa e w' from fun e w' h1 h2 h3=>by
  unfold pT;rw[<-dY,<-VC,<-Tp,<-uj];exact⟨h1,h2,h3⟩)
 have zK:=sh (show ∀m:List Nat,m.Perm (Fo.aa++d.gW)->m.length=pk/\m.length<=1000 from fun m hm=>by rw[hm.length_eq];exact⟨by rw[AT,Tp],iS⟩);have qQ:=sh dY;have Ye:=sh VC;have Kk:=sh uj;have al1:pk<=1000:=by rw[Tp,<-AT];exact iS
 have alR:zX<=1000:=by omega
 have amd:tk<=1000:=by omega
 have ka:=sh hs;unfold bW at sJ gJ;clear h hp hs ht hT hL Ei gJ nD hlen Xw BC EF bI iS Tm dY VC Tp uj pP
 go_enter_defers func31,ntmps31
 go_wp2_with fail
 refine sJ.out.mono ?_;rintro e w1 ⟨sp,rfl,ho,hd,sw,sZ⟩;have uw:ah [d.r] w w1:=((ah.refl [d.r] w).alloc _).trans ho;have aeX:∀x∈Sd,x∉[d.r]:=fun x hx hm=>by rw[IN]at hm;subst hm;exact SM hx
 have Me:pU w d Sd D σ Fo txn aa limit sp 0 s1 w1:=⟨hd,sw,HDV.out.off uw aeX,oF.out.off uw (by simpa using qY),uw⟩;have vK:=sh Me;have ZF:Bk w1 w.heap.size 69 #[.int .i64 0,.int .i64 0,.int .i64 0,.int .i64 0,.int .i64 0,.int .i64 0,.int .i64 0,.int .i64 0]:=ho.bk (Bk.new w 69 _) (by simpa using nk);have F0:=sh ZF;have aa9:Hid (w.heap.size<sp):=show _<_ by simp at sZ;omega
 have lb:=Me.db.top.lt;have ls:=Bk.lt Me.snap;have yA:=sh (O1.out sp w1 Me);clear ho hd sw sZ uw Me ZF sJ;go_wp2_with fail
 refine yA.out.mono ?_;rintro e w2 ⟨aC,A2,c2,m2,rfl,jf,-,aU⟩;have vL:=sh (vK.out.below aC);have gY:=sh (ae F0.out aC);have fX:=sh aU;have sI:=sh jf;obtain⟨Et,alT⟩:=zK.out m2 jf;have aeJ:c2<=9223372036854775807:=by
  obtain⟨_,_,hv,-,h9⟩:=aV aU;injection hv with e1 e2 e3;subst e3;unfold maxLen at h9;omega
 have acY:=sh (show c2<=maxLen by unfold maxLen;exact aeJ);rw[Et]at fX |-;have Yd:=sh (Yc.out sp w2 vL.out);have h2s:=aC.size;clear aC aU jf vK F0 yA lb ls;go_wp2_with fail
 refine Yd.out.mono ?_;rintro e w3 ⟨rfl,aN⟩;have zI:=sh (vL.out.below aN);have Xa:=sh (ae gY.out aN);have XJ:=sh aN;clear aN vL gY Yd;go_wp2_with fail
 have hz:=Bk.new w3 40 #[.int .i64 txn,.int .i64 rr,.int .i64 ff,.int .i64 aa,.int .i64 ll];have QG:=(BY _ w3).alloc (AS _) (.cells #[.int .i64 txn,.int .i64 rr,.int .i64 ff,.int .i64 aa,.int .i64 ll] 40);have IQ:=zI.out.below QG;have V1:=ae Xa.out QG;have UO:=sh (XJ.out.trans (QG.mono XJ.out.size));have hMw:w.heap.size<=w3.heap.size:=IQ.off.size |> fun h=>by have:=zI.out.off.size;omega
 have HMW:=sh hMw;generalize w3.alloc (.cells #[.int .i64 txn,.int .i64 rr,.int .i64 ff,.int .i64 aa,.int .i64 ll] 40)=W3 at hz IQ V1 UO |-;generalize w3.heap.size=M at hz hMw HMW |-;have XM:=sh IQ;have Yy:=sh V1;have lz:=hz.lt;have lb3:=IQ.db.top.lt;have bD:=sh (show ∀W,IT W3.heap.size W3 W->W.cell? ⟨M,0,none⟩=some (.int .i64 txn)/\W.cell? ⟨M,3,none⟩=some (.int .i64 aa) from fun W hW=>⟨(ae hz hW).cell 0,(ae hz hW).cell 3⟩);have HFW:=sh fun(W:AI) (hW:IT W3.heap.size W3 W)=>(sG.out sp W (IQ.below hW));have QI:IT W3.heap.size W3 (W3.alloc (.cells #[.int .i64 0,.int .i64 0,.int .i64 0,.int .i64 0,.int .i64 0,.int .i64 0,.int .i64 0,.int .i64 0] 69)).drew:=((BY _ W3).alloc (AS _) _).drew;have PI:=sh QI;have hwp:IntKind.i64.wrap ((aa:Int)-1)=((aa-1:Nat):Int):=by rw[show (aa:Int)-1=((aa-1:Nat):Int)by omega];exact wrap_i64 _ (by omega)
 clear hz IQ V1 zI Xa QI QG;go_region_held3 (fun W=>W.cell? ⟨M,0,none⟩=some (.int .i64 txn)/\W.cell? ⟨M,3,none⟩=some (.int .i64 aa)) (first|(refine bD.out _ ?_;with_reducible (first|exact(BY _ _).drew|exact dO.out|exact PI.out|exact(Below.alloc dO.out dO.out.size _)|exact((((((((dO.out.setCell (AS _) _).setCell (AS _) _).setCell (AS _) _).setCell (AS _) _).setCell (AS _) _).setCell (AS _) _).setCell (AS _) _).setCell (AS _) _)))|fail) (first
  | (go_at_call 21;refine(HFW.out _ PI.out).mono ?_;rintro e w4 ⟨bT,A4,c4,rfl,-⟩;rw[<-Kk.out];have dO:=sh (show IT W3.heap.size W3 w4 from PI.out.trans (bT.mono PI.out.size));have aT:=ae ((Bk.new W3 69 #[.int .i64 0,.int .i64 0,.int .i64 0,.int .i64 0,.int .i64 0,.int .i64 0,.int .i64 0,.int .i64 0]).drew) bT;have z0:=aT.frozen 0;have z1:=aT.frozen 1;have z2:=aT.frozen 2;have z3:=aT.frozen 3;have z4:=aT.frozen 4;have z5:=aT.frozen 5;have z6:=aT.frozen 6;have z7:=aT.frozen 7;have y0:=aT.cell 0;have y1:=aT.cell 1;have y2:=aT.cell 2;have y3:=aT.cell 3;have y4:=aT.cell 4;have y5:=aT.cell 5;have y6:=aT.cell 6;have y7:=aT.cell 7;have lbk:=aT.lt;have pJ:=sh aT;clear aT bT)
  | (go_at_call 21;refine(HFW.out _ (BY _ _).drew).mono ?_;rintro e w4 ⟨bT,A4,c4,rfl,-⟩;rw[<-Kk.out];have dO:=sh (show IT W3.heap.size W3 w4 from (BY _ _).drew.trans bT);clear bT)
  | fail)
 all_goals
  go_wp2_with fail
  first
   | (have cV:IT W3.heap.size W3 ((((((((w4.setCell ⟨W3.heap.size,0,none⟩ (.int .i64 txn)).setCell ⟨W3.heap.size,1,none⟩ (.int .i64 ((aa-1:Nat):Int))).setCell ⟨W3.heap.size,2,none⟩ (.int .i64 (pk:Nat))).setCell ⟨W3.heap.size,3,none⟩ (.int .i64 (fl:Nat))).setCell ⟨W3.heap.size,4,none⟩ (.int .i64 0)).setCell ⟨W3.heap.size,5,none⟩ (.int .i64 0)).setCell ⟨W3.heap.size,6,none⟩ (.int .i64 0)).setCell ⟨W3.heap.size,7,none⟩ (.int .i64 0)):=((((((((dO.out.setCell (AS _) _).setCell (AS _) _).setCell (AS _) _).setCell (AS _) _).setCell (AS _) _).setCell (AS _) _).setCell (AS _) _).setCell (AS _) _)
      have Df:Bk ((((((((w4.setCell ⟨W3.heap.size,0,none⟩ (.int .i64 txn)).setCell ⟨W3.heap.size,1,none⟩ (.int .i64 ((aa-1:Nat):Int))).setCell ⟨W3.heap.size,2,none⟩ (.int .i64 (pk:Nat))).setCell ⟨W3.heap.size,3,none⟩ (.int .i64 (fl:Nat))).setCell ⟨W3.heap.size,4,none⟩ (.int .i64 0)).setCell ⟨W3.heap.size,5,none⟩ (.int .i64 0)).setCell ⟨W3.heap.size,6,none⟩ (.int .i64 0)).setCell ⟨W3.heap.size,7,none⟩ (.int .i64 0)) W3.heap.size 69 #[.int .i64 txn,.int .i64 ((aa-1:Nat):Int),.int .i64 (pk:Nat),.int .i64 (fl:Nat),.int .i64 0,.int .i64 0,.int .i64 0,.int .i64 0]:=pJ.out.oQ _ _ _ _ _ _ _ _;generalize ((((((((w4.setCell ⟨W3.heap.size,0,none⟩ (.int .i64 txn)).setCell ⟨W3.heap.size,1,none⟩ (.int .i64 ((aa-1:Nat):Int))).setCell ⟨W3.heap.size,2,none⟩ (.int .i64 (pk:Nat))).setCell ⟨W3.heap.size,3,none⟩ (.int .i64 (fl:Nat))).setCell ⟨W3.heap.size,4,none⟩ (.int .i64 0)).setCell ⟨W3.heap.size,5,none⟩ (.int .i64 0)).setCell ⟨W3.heap.size,6,none⟩ (.int .i64 0)).setCell ⟨W3.heap.size,7,none⟩ (.int .i64 0))=W5 at cV Df |-;obtain⟨R2,Ed⟩:∃R2,R2=W3.heap.size:=⟨_,rfl⟩;have Bd:Hid (W3.heap.size<=R2):=show _<=_ from Nat.le_of_eq Ed.symm;rw[<-Ed]at Df |-;clear Ed)
   | (have cV:IT W3.heap.size W3 (w4.alloc (.cells #[.int .i64 txn,.int .i64 ((aa-1:Nat):Int),.int .i64 (pk:Nat),.int .i64 (fl:Nat),.int .i64 0,.int .i64 0,.int .i64 0,.int .i64 0] 69)):=dO.out.alloc dO.out.size _
      have Df:Bk (w4.alloc (.cells #[.int .i64 txn,.int .i64 ((aa-1:Nat):Int),.int .i64 (pk:Nat),.int .i64 (fl:Nat),.int .i64 0,.int .i64 0,.int .i64 0,.int .i64 0] 69)) w4.heap.size 69 #[.int .i64 txn,.int .i64 ((aa-1:Nat):Int),.int .i64 (pk:Nat),.int .i64 (fl:Nat),.int .i64 0,.int .i64 0,.int .i64 0,.int .i64 0]:=Bk.new w4 _ _;generalize (w4.alloc (.cells #[.int .i64 txn,.int .i64 ((aa-1:Nat):Int),.int .i64 (pk:Nat),.int .i64 (fl:Nat),.int .i64 0,.int .i64 0,.int .i64 0,.int .i64 0] 69))=W5 at cV Df |-;obtain⟨R2,Ed⟩:∃R2,R2=w4.heap.size:=⟨_,rfl⟩;have Bd:Hid (W3.heap.size<=R2):=show _<=_ from by rw[Ed];exact dO.out.size
      rw[<-Ed]at Df |-;clear Ed)
   | fail
  have h5:=XM.out.below cV;have m5:=sh cV;have hwW:w.heap.size<=W3.heap.size:=by have:=XM.out.off.size;omega
  have hRn:=Bd.out;have kf:=sh (show ∀W,IT W5.heap.size W5 W->W.cell? ⟨M,3,none⟩=some (.int .i64 aa) from fun W hW=>(bD.out _ (cV.trans (hW.mono cV.size))).2);have XU:=sh fun(W:AI) (hW:IT W5.heap.size W5 W)=>(sG.out sp W (h5.below hW));have adG:=sh fun(B:Option Addr) (cb B0:Nat) (W:AI) (hW:IT W5.heap.size W5 W) (Pf:fC W B0 (.slice B fl cb) d.fr)=>(show Calls prog 86 #[.pointer (some ⟨R2,0,none⟩),.int .i64 aa,.slice A2 pk c2,.slice B fl cb] W (fun e w'=>e= .returned (.tuple #[])/\IT W.heap.size W w') from by
   obtain⟨q1,q2,q3,q4⟩:=tC.out m2 sI.out;obtain⟨p1,p2⟩:=zK.out m2 sI.out;have hlen:=m9.out.perm.length_eq;simp only[AT,Fr.pg,IS,gV,adT]at hlen;have afp:=sI.out.length_eq;rw[AT]at afp;have aa8:Sl W A2 (ints m2):=(Sl.dh fX.out).below (UO.out.trans ((cV.trans (hW.mono cV.size)).mono UO.out.size));have uj:=Kk.out;have ZZ:cb<=maxLen:=by
    have h9:=Pf;unfold fC at h9;obtain⟨_,_,hv,-,h8⟩:=aV h9;injection hv with e1 e2 e3;subst e3;exact h8
   by_cases zf:aa=1
   ·have e1:pk=0:=by omega
    have e2:fl=0:=by omega
    rw[zf,e1,e2];exact JA _ _ _ _ _ W
   ·have sU:=ae Df hW
    rw[uj,<-p1];rw[uj]at Pf;exact DK sU aa8 q3 p2 acY.out (by omega) (by omega) Pf.LZ q4 (by omega) ZZ q1 q2)
  have H5:=sh h5;have Yz:=sh Df;clear h5 Df cV;first
   | go_region_held3 (fun W=>W.cell? ⟨M,3,none⟩=some (.int .i64 aa)) (first|(refine kf.out _ ?_;with_reducible (first|exact(BY _ _).drew|exact rh.out|exact Bp.out))|fail) (first
     | (go_at_call 21;refine(XU.out _ (BY _ _).drew).mono ?_;rintro e w6 ⟨ga,A6,c6,rfl,Vl⟩;rw[<-Kk.out]at Vl |-;have adb:=sh Vl;have rh:=sh (show IT W5.heap.size W5 w6 from (BY _ _).drew.trans ga);clear ga Vl)
     | (go_at_call 86;refine(adG.out _ _ _ _ rh.out adb.out).mono ?_;rintro e w7 ⟨rfl,sS⟩;have Bp:=sh (show IT W5.heap.size W5 w7 from rh.out.trans (sS.mono rh.out.size));clear sS)
     | fail)
   | fail
  have h7:=H5.out.below Bp.out;have Ps:=ae Yz.out Bp.out;have HN7:=sh (OY.out sp w7 h7);have H7:=sh h7;have HR7:=sh Ps;clear h7 Ps hRn;go_wp2_with fail
  refine HN7.out.mono ?_;rintro e w8 ⟨ng,v8,rfl,xJ⟩;rw[<-Ye.out]at xJ;obtain⟨A8,c8,rfl,-,-⟩:=aV xJ;have h8:=H7.out.below ng;have BE:=ae HR7.out ng;have H8:=sh h8;have HR8:=sh BE;have amm:w.heap.size<=R2:=by have:=Bd.out;omega
  have lr8:=BE.lt;have y6:=BE.cell 6;have z6:=BE.frozen 6;have aml:w.heap.size<W3.heap.size:=(ae (Yy.out) (BY _ _)).lt;have Zo:w.heap.size≠R2:=by have:=Bd.out;omega
  have HZ8:=sh (ae Yy.out ((m5.out.trans (Bp.out.mono m5.out.size)).trans (ng.mono (Nat.le_trans m5.out.size Bp.out.size))));clear h8 BE ng xJ;go_wp2_with fail
  have Wc:R2≠sp:=(Bk.ne H8.out.snap HR8.out (by decide)).symm;have eV:pU w d Sd D σ Fo txn aa limit sp 0 s1 (w8.setCell ⟨R2,6,none⟩ (.int .i64 (zX:Nat))):=by
   have bB:=(ah.refl [R2] w8).setCell (p:=⟨R2,6,none⟩) (.inl (by simp)) (.int .i64 (zX:Nat));have Gq:∀x,x<w.heap.size->x∉[R2]:=fun x hx hm=>by rw[IN]at hm;omega
   exact⟨H8.out.db.off bB (fun x hx=>Gq x (KR.out x hx)),bB.bk H8.out.snap (by simpa using Wc.symm),H8.out.dev.off bB (fun x hx=>Gq x (WV.out x hx)),H8.out.row.off bB (Gq _ oF.out.lt),H8.out.off.then bB (fun x hx=>by rw[IN]at hx;exact .inr (by omega))⟩
  have V2:Bk (w8.setCell ⟨R2,6,none⟩ (.int .i64 (zX:Nat))) R2 69 #[.int .i64 txn,.int .i64 ((aa-1:Nat):Int),.int .i64 (pk:Nat),.int .i64 (fl:Nat),.int .i64 0,.int .i64 0,.int .i64 (zX:Nat),.int .i64 0]:=by
   have:=HR8.out.put 6 (.int .i64 (zX:Nat));simpa using this
  have hz9:=HZ8.out.vV (p:=⟨R2,6,none⟩) Zo (.int .i64 (zX:Nat));generalize w8.setCell ⟨R2,6,none⟩ (.int .i64 (zX:Nat))=w9 at eV V2 hz9 |-;have hEX:R2≠sp/\R2≠d.b/\R2∉(d.kr Sd D σ).blocks:=⟨Wc,fun e=>by have:=KR.out d.b (by simp[Di.blocks]);omega,fun hm=>by have:=OW.out _ hm;omega⟩;have T0:=sh (HEA.out sp R2 #[.int .i64 txn,.int .i64 ((aa-1:Nat):Int),.int .i64 (pk:Nat),.int .i64 (fl:Nat),.int .i64 0,.int .i64 0,.int .i64 (zX:Nat),.int .i64 0] w9 eV ⟨by simpa using V2,by simp⟩ hEX);have H9:=sh eV;clear eV V2;refine T0.out.mono ?_;rintro e Dr ⟨rfl,uv,V7⟩;rw[<-qQ.out]at V7;have BD:Bk Dr R2 69 #[.int .i64 txn,.int .i64 ((aa-1:Nat):Int),.int .i64 (pk:Nat),.int .i64 (fl:Nat),.int .i64 0,.int .i64 0,.int .i64 (zX:Nat),.int .i64 (tk:Nat)]:=by have:=V7.1;simpa using this
  have Gq:∀x,x<w.heap.size->x∉[R2]:=fun x hx hm=>by rw[IN]at hm;omega
  have fu:pU w d Sd D σ Fo txn aa limit sp 0 s1 Dr:=⟨H9.out.db.off uv (fun x hx=>Gq x (KR.out x hx)),uv.bk H9.out.snap (by simpa using Wc.symm),H9.out.dev.off uv (fun x hx=>Gq x (WV.out x hx)),H9.out.row.off uv (Gq _ oF.out.lt),H9.out.off.then uv (fun x hx=>by rw[IN]at hx;exact .inr (by omega))⟩;have gL:=uv.bk hz9 (by simpa using Zo);have PH:=sh fu;have HR:=sh gL;have age:=BD.lt;have l10:=gL.lt;obtain⟨y0,y1,y2,y3,y4,y5,y6,y7⟩:=BD.eight;obtain⟨x0,x1,x2,x3,x4,x5,x6,x7⟩:=gL.eight;have z0:=gL.frozen 0;have z1:=gL.frozen 1;have z2:=gL.frozen 2;have z3:=gL.frozen 3;have z4:=gL.frozen 4;have z5:=gL.frozen 5;have z6:=gL.frozen 6;have z7:=gL.frozen 7;clear hz9 V7 BD fu gL uv;go_wp2_with fail
  have bB:ah [w.heap.size] Dr ((((((((Dr.setCell ⟨w.heap.size,0,none⟩ (.int .i64 txn)).setCell ⟨w.heap.size,1,none⟩ (.int .i64 ((aa-1:Nat):Int))).setCell ⟨w.heap.size,2,none⟩ (.int .i64 (pk:Nat))).setCell ⟨w.heap.size,3,none⟩ (.int .i64 (fl:Nat))).setCell ⟨w.heap.size,4,none⟩ (.int .i64 0)).setCell ⟨w.heap.size,5,none⟩ (.int .i64 0)).setCell ⟨w.heap.size,6,none⟩ (.int .i64 (zX:Nat))).setCell ⟨w.heap.size,7,none⟩ (.int .i64 (tk:Nat))):=(((((((((ah.refl [w.heap.size] Dr).setCell (.inl (by simp)) _).setCell (.inl (by simp)) _).setCell (.inl (by simp)) _).setCell (.inl (by simp)) _).setCell (.inl (by simp)) _).setCell (.inl (by simp)) _).setCell (.inl (by simp)) _).setCell (.inl (by simp)) _);have aT:Bk ((((((((Dr.setCell ⟨w.heap.size,0,none⟩ (.int .i64 txn)).setCell ⟨w.heap.size,1,none⟩ (.int .i64 ((aa-1:Nat):Int))).setCell ⟨w.heap.size,2,none⟩ (.int .i64 (pk:Nat))).setCell ⟨w.heap.size,3,none⟩ (.int .i64 (fl:Nat))).setCell ⟨w.heap.size,4,none⟩ (.int .i64 0)).setCell ⟨w.heap.size,5,none⟩ (.int .i64 0)).setCell ⟨w.heap.size,6,none⟩ (.int .i64 (zX:Nat))).setCell ⟨w.heap.size,7,none⟩ (.int .i64 (tk:Nat))) w.heap.size 69 #[.int .i64 txn,.int .i64 ((aa-1:Nat):Int),.int .i64 (pk:Nat),.int .i64 (fl:Nat),.int .i64 0,.int .i64 0,.int .i64 (zX:Nat),.int .i64 (tk:Nat)]:=HR.out.oQ _ _ _ _ _ _ _ _
  generalize ((((((((Dr.setCell ⟨w.heap.size,0,none⟩ (.int .i64 txn)).setCell ⟨w.heap.size,1,none⟩ (.int .i64 ((aa-1:Nat):Int))).setCell ⟨w.heap.size,2,none⟩ (.int .i64 (pk:Nat))).setCell ⟨w.heap.size,3,none⟩ (.int .i64 (fl:Nat))).setCell ⟨w.heap.size,4,none⟩ (.int .i64 0)).setCell ⟨w.heap.size,5,none⟩ (.int .i64 0)).setCell ⟨w.heap.size,6,none⟩ (.int .i64 (zX:Nat))).setCell ⟨w.heap.size,7,none⟩ (.int .i64 (tk:Nat)))=w11 at bB aT |-;have TA:sp≠w.heap.size:=Bk.ne PH.out.snap HR.out (by decide);have Td:∀x∈d.blocks,x∉[w.heap.size]:=fun x hx hm=>by rw[IN]at hm;have:=KR.out x hx;omega
  have fw:=PH.out.db.off bB Td;have sw:xe w11 sp d.b 0 d.P.m d.pv false:=bB.bk PH.out.snap (by simpa using TA);have afQ:sp∉Di.blocks { d with s:=s1 }:=fun hm=>by have:=KR.out sp hm;have:=aa9.out;omega
  refine leaves_cons (f:=18) (args:= #[.pointer (some ⟨sp,0,none⟩)]) (by simp) (by simp[go_sem]) ?_;refine(JN fw sw afQ).mono ?_;rintro e u' w12 ⟨rfl,n,rfl,MG,ZP⟩;have VZ:Bk w12 w.heap.size 69 #[.int .i64 txn,.int .i64 ((aa-1:Nat):Int),.int .i64 (pk:Nat),.int .i64 (fl:Nat),.int .i64 0,.int .i64 0,.int .i64 (zX:Nat),.int .i64 (tk:Nat)]:=MG.bk aT (by
   have:=KR.out d.r (by simp[Di.blocks]);simp;exact⟨fun h=>TA h.symm,by omega⟩)
  have aeU:fs w12 d:=by
   have h9:=ZP;simp only[VA]at h9;rw[<-ka.out]at h9;exact h9
  refine⟨_,rK rfl rfl VZ,HCP.out _ _ rfl ?_ aeU⟩;exact((PH.out.off.then bB (fun x hx=>by rw[IN]at hx;exact .inr (by omega))).then MG (fun x hx=>by
   simp only[OF,List.not_mem_nil,or_false]at hx;rcases hx with rfl|rfl
   ·exact .inr (Nat.le_of_lt aa9.out)
   ·exact .inl (by simp)))
end Go.Proofs.YtjbcbnemdhbhbaaGreatDoor
