import Derived.Test.YtjbcbnemdhbhbaaGreatDoorB25
import Derived.Test.YtjbcbnemdhbhbaaGreatDoorB34
import Derived.Defers
set_option maxRecDepth 100000
set_option linter.unusedVariables false
set_option linter.unusedSimpArgs false
set_option maxHeartbeats 40000000
open Go renaming Calls→aag,Value→IS,World→AI,rounds_succ→abK,wp_loop_rounds→acd
open Go.Lib renaming hid→sh
open Go.RowKit renaming Below→No
open Go.RowKit.Below renaming refl→IN
open List renaming mem_cons→IT,mem_singleton→By,not_mem_nil→acG
open Nat renaming le_refl→AS,le_trans→abE
namespace Go.Proofs.YtjbcbnemdhbhbaaGreatDoor
open Go.Proofs.Tryz
open Go.RowKit
theorem NZ{w:AI}{b q r f g sp:Nat}{P:eR}{s:St}{i:Int}{u:FrameMode}(h:Db w b q r f g P s)(hs:kd w sp b i P.m false):CallsD prog 18 #[.pointer (some ⟨sp,0,none⟩)] u w (fun e u' w'=>u'=u/\∃n:Int,e= .returned (.int .i64 n)/\ah [sp,r] w w'/\Db w' b q r f g P (s.leave i).1):=by
 have HM:=sh (yR hs);have ls:=Bk.lt hs;have lb:=h.top.lt;have s8:=Bk.cell hs 8;have f8:=Bk.frozen hs 8;have nsb:sp≠b:=Bk.ne hs h.top (by decide);have Wn:sp≠r:=Bk.ne hs h.rd (by decide);have bS:ah [sp,r] w (w.setCell ⟨sp,8,none⟩ (.bool true)):=(ah.refl _ w).setCell (p:=⟨sp,8,none⟩) (.inl (by simp)) _;have jb:∀W,ah [r] (w.setCell ⟨sp,8,none⟩ (.bool true)) W->W.cell? ⟨sp,0,none⟩=some (.pointer (some ⟨b,0,none⟩))/\W.cell? ⟨b,1,none⟩=some (.pointer (some ⟨r,0,none⟩))/\W.cell? ⟨sp,1,none⟩=some (.int .i64 i):=fun W hW=>by
  have k1:=hW.bk (Bk.put hs 8 (.bool true)) (by simpa using Wn);have k2:=hW.bk (h.top.zf (p:=⟨sp,8,none⟩) (Ne.symm nsb) (.bool true)) (by have:=h.ner.1;simpa using this);exact⟨k1.cell 0,k2.cell 1,k1.cell 1⟩
 have bH:=sh jb;have hrd:Bk (w.setCell ⟨sp,8,none⟩ (.bool true)) r 195 s.cells:=h.rd.zf (p:=⟨sp,8,none⟩) (Ne.symm Wn) _;have HL:=sh (wX r i s (w.setCell ⟨sp,8,none⟩ (.bool true)).drew hrd.drew);obtain⟨s2,n2,wR⟩:∃s2 n2,s.leave i=(s2,n2):=⟨_,_,rfl⟩;rw[wR]at HL;have HDD:=sh (show ∀W,ah [r] (w.setCell ⟨sp,8,none⟩ (.bool true)) W->Bk W r 195 s2.cells->Db W b q r f g P s2 from fun W hW om=>by
  have hq:∀x∈[b,q,r,f],x∉[sp]:=fun x hx hm=>by
   obtain⟨cs,hp⟩:=h.EP;obtain⟨tc,h1,-⟩:=h.fr;rw[By]at hm;subst hm;simp only[IT,acG,or_false]at hx;rcases hx with e|e|e|e
   ·exact nsb e
   ·subst e;exact(Bk.ne hs hp (by decide)) rfl
   ·exact Wn e
   ·subst e;exact(Bk.ne hs h1 (by decide)) rfl
  exact(h.off (U:=[sp]) ((ah.refl _ w).setCell (p:=⟨sp,8,none⟩) (.inl (by simp)) (.bool true)) hq).pk hW om)
 have nk:=sh bS;have xR:=sh wR;clear h hs jb hrd bS wR
 go_enter_d func18,ntmps18
 go_wp2_with fail
 refine HM.out.mono ?_;rintro e w1 ⟨rfl,rfl⟩;go_wp2_with fail
 go_region_held3 (fun W=>W.cell? ⟨sp,0,none⟩=some (.pointer (some ⟨b,0,none⟩))/\W.cell? ⟨b,1,none⟩=some (.pointer (some ⟨r,0,none⟩))/\W.cell? ⟨sp,1,none⟩=some (.int .i64 i)) (first|exact bH.out _ (ah.refl _ _).drew|exact bH.out _ kU.out) (first
  | (go_at_call 60;refine HL.out.mono ?_;rintro e w2 ⟨rfl,om,dg⟩;have gM:=sh om;have kU:=sh ((ah.refl [r] _).drew.trans dg);clear om dg))
 all_goals
  go_wp2_with fail
  go_ret
  exact⟨_,rfl,nk.out.trans (kU.out.mono (fun x hx=> .inl (by simp at hx;simp[hx]))),by rw[xR.out];exact HDD.out _ kU.out gM.out⟩
theorem JG{w:AI}{b q r f g sp:Nat}{P:eR}{s:St}{i t ff p l:Int}(h:Db w b q r f g P s)(hs:kd w sp b i ⟨t,0,ff,p,l⟩ false):aag prog 27 #[.pointer (some ⟨sp,0,none⟩)] w (fun e w'=>e= .returned (.tuple #[.slice none 0 0,.int .i64 0])/\No w.heap.size w w'):=by
 have HM:=sh (yR hs);have ls:=Bk.lt hs;have lb:=h.top.lt;have HS:=sh hs;have HT:=sh h.top;have HR:=sh fun(v:IS) (W:AI)=>EW v W;have HN:=sh fun(T:TypeId) (v:IS) (W:AI)=>wj T v W;have HSO:=sh fun(W:AI)=>JF W;have c0:=Bk.cell hs 0;have c3:=Bk.cell hs 3;have c7:=Bk.cell hs 7;have b0:=h.top.cell 0;clear h hs;go_enter func27,ntmps27
 go_wp2_with fail
 refine HM.out.mono ?_;rintro e w1 ⟨rfl,rfl⟩;go_wp2_with fail
 have hz:=Bk.new w 117 #[.pointer (some ⟨q,0,none⟩)];have HZ:=sh hz;have bH:=sh (show ∀W,No (w.alloc (.cells #[.pointer (some ⟨q,0,none⟩)] 117)).heap.size (w.alloc (.cells #[.pointer (some ⟨q,0,none⟩)] 117)) W->W.cell? ⟨w.heap.size,0,none⟩=some (.pointer (some ⟨q,0,none⟩))/\W.cell? ⟨sp,3,none⟩=some (.int .i64 0) from fun W hW=>⟨(af hz hW).cell 0,(af (Bk.alloc HS.out _) hW).cell 3⟩);have lz:=hz.lt;clear hz;go_region_held3 (fun W=>W.cell? ⟨w.heap.size,0,none⟩=some (.pointer (some ⟨q,0,none⟩))/\W.cell? ⟨sp,3,none⟩=some (.int .i64 0)) (first|exact bH.out _ (IN _ _).drew) (first
  | (go_at_call 73;refine(HR.out _ _).mono ?_;rintro e w2 ⟨rfl,rfl⟩)
  | fail)
 all_goals
  go_wp2_with fail
  have Y9:No w.heap.size w (((w.alloc (.cells #[.pointer (some ⟨q,0,none⟩)] 117)).alloc (.cells #[.slice none 0 0,.slice none 0 0] 51)).drew):=(((IN _ w).alloc (AS _) _).alloc (by simp) _).drew;refine(zN _ _ (show Bk _ (w.heap.size+1) 51 #[.slice none 0 0,.slice none 0 0] from ((by simpa using Bk.new (w.alloc (.cells #[.pointer (some ⟨q,0,none⟩)] 117)) 51 #[.slice none 0 0,.slice none 0 0]:Bk ((w.alloc (.cells #[.pointer (some ⟨q,0,none⟩)] 117)).alloc (.cells #[.slice none 0 0,.slice none 0 0] 51)) (w.heap.size+1) 51 #[.slice none 0 0,.slice none 0 0])).drew)).mono ?_;rintro e w2 ⟨rfl,az⟩;have CL:=sh (af ((Bk.alloc HZ.out (.cells #[.slice none 0 0,.slice none 0 0] 51)).drew) az);have bz:=sh (Y9.trans (az.mono Y9.size));have lz2:=CL.out.lt;clear Y9 az lz;have sK:=sh (show ∀W,No w2.heap.size w2 W->W.cell? ⟨w.heap.size,0,none⟩=some (.pointer (some ⟨q,0,none⟩))/\W.cell? ⟨sp,3,none⟩=some (.int .i64 0) from fun W hW=>⟨(af CL.out hW).cell 0,(af (af HS.out bz.out) hW).cell 3⟩);go_wp2_with fail
  go_region_held3 (fun W=>W.cell? ⟨w.heap.size,0,none⟩=some (.pointer (some ⟨q,0,none⟩))/\W.cell? ⟨sp,3,none⟩=some (.int .i64 0)) (first|exact sK.out _ (IN _ _).drew|exact sK.out _ dx.out) (first
   | (go_at_call 75;refine(HN.out _ _ _).mono ?_;rintro e w3 ⟨rfl,Ke,aQ⟩;have RR:=sh Ke;have dx:=sh ((IN w2.heap.size w2).drew.trans (aQ.mono (by simp)));clear Ke aQ)
   | fail)
  all_goals
   have lc3:=RR.out.lt;go_wp2_with fail
   refine(qN _ _ _ RR.out).mono ?_;rintro e w4 ⟨rfl,tE⟩;have xO:=sh tE;clear tE;go_wp2_with fail
   refine acd 2 ?_;rw[abK];go_wp2_with fail
   refine(HSO.out _).mono ?_;rintro e w5 ⟨rfl,dO⟩;have ou:=sh dO;clear dO;go_wp2_with fail
   go_ret2
   have hB4:No w.heap.size w w4:=((ah.ae (bz.out.trans (dx.out.mono bz.out.size)) []).then xO.out (fun x hx=>by rw[By]at hx;subst hx;exact .inr (by simpa using bz.out.size))).below (AS _) (by simp);exact⟨rfl,hB4.trans (ou.out.mono hB4.size)⟩
theorem JD{w:AI}{b q r f g sp:Nat}{P:eR}{s:St}{i t ff p l:Int}(h:Db w b q r f g P s)(hs:kd w sp b i ⟨t,0,ff,p,l⟩ false):aag prog 90 #[.pointer (some ⟨sp,0,none⟩)] w (fun e w'=>e= .returned (.tuple #[.slice none 0 0,.int .i64 0])/\No w.heap.size w w'):=by
 have HM:=sh (yR hs);have ls:=Bk.lt hs;have lb:=h.top.lt;have bH:=sh (show ∀W,No w.heap.size w W->W.cell? ⟨sp,0,none⟩=some (.pointer (some ⟨b,0,none⟩))/\W.cell? ⟨b,0,none⟩=some (.pointer (some ⟨q,0,none⟩))/\W.cell? ⟨sp,3,none⟩=some (.int .i64 0) from fun W hW=>⟨(af hs hW).cell 0,(af h.top hW).cell 0,(af hs hW).cell 3⟩);have HN:=sh fun(T:TypeId) (v:IS) (W:AI)=>wj T v W;clear h hs;go_enter func90,ntmps90
 go_wp2_with fail
 refine HM.out.mono ?_;rintro e w1 ⟨rfl,rfl⟩;go_wp2_with fail
 go_region_held3 (fun W=>W.cell? ⟨sp,0,none⟩=some (.pointer (some ⟨b,0,none⟩))/\W.cell? ⟨b,0,none⟩=some (.pointer (some ⟨q,0,none⟩))/\W.cell? ⟨sp,3,none⟩=some (.int .i64 0)) (first|exact bH.out _ (IN _ _).drew|exact bH.out _ dx.out) (first
  | (go_at_call 75;refine(HN.out _ _ _).mono ?_;rintro e w3 ⟨rfl,Ke,aQ⟩;have RR:=sh Ke;have dx:=sh ((IN w.heap.size w).drew.trans (aQ.mono (by simp)));clear Ke aQ)
  | fail)
 all_goals
  have lc3:=RR.out.lt;go_wp2_with fail
  refine(qN _ _ _ RR.out).mono ?_;rintro e w4 ⟨rfl,tE⟩;have xO:=sh tE;clear tE;go_wp2_with fail
  refine acd 2 ?_;rw[abK];go_wp2_with fail
  go_ret2
  exact⟨rfl,((ah.ae dx.out []).then xO.out (fun x hx=>by rw[By]at hx;subst hx;exact .inr (by simp))).below (AS _) (by simp)⟩
theorem Aj(w:AI):aag prog 155 #[] w (fun e w'=>e= .returned (.pointer (some ⟨w.heap.size,0,none⟩))/\(∃tc,Bk w' w.heap.size 165 tc/\tc[0]? =some (.slice none 0 0))/\No w.heap.size w w'):=by
 go_enter func155,ntmps155
 go_wp2_with fail
 go_ret
 refine⟨rfl,⟨_,Bk.new w _ _,?_⟩,(IN _ _).alloc (AS _) _⟩;rfl
theorem BR(q:Nat)(w:AI):aag prog 100 #[.pointer (some ⟨q,0,none⟩),.int .i64 0] w (fun e w'=>∃f,w.heap.size<=f/\e= .returned (.tuple #[.pointer (some ⟨f,0,none⟩),.slice none 0 0,.int .i64 0])/\(∃tc,Bk w' f 165 tc/\tc[0]? =some (.slice none 0 0))/\No w.heap.size w w'):=by
 have HF:=sh fun(W:AI)=>Aj W;go_enter func100,ntmps100
 go_wp2_with fail
 refine(HF.out _).mono ?_;rintro e w1 ⟨rfl,hf,hb⟩;have HE:=sh hf;have HB:=sh hb;clear hf hb;go_wp2_with fail
 refine acd 2 ?_;rw[abK];go_wp2_with fail
 refine bodyPost_ret (v:= .tuple #[.pointer (some ⟨w.heap.size,0,none⟩),.slice none 0 0,.int .i64 0]) (by simp[results,results100,go_sem]) rfl ?_;exact⟨_,AS _,rfl,HE.out,HB.out⟩
theorem oV{L:Ending->AI->Prop}{a:IS}{n:Int}{w:AI}(h:aag prog 98 #[a,.int .i64 n] w (fun e w'=>(∃x:Int,e= .returned (.int .i64 x))/\L e w')):aag prog 42 #[a,.int .i64 n] w L:=by
 have H:=sh h;clear h;go_enter func42,ntmps42
 go_wp2_with fail
 refine H.out.mono ?_;rintro e w1 ⟨⟨v,rfl⟩,hl⟩;have HL:=sh hl;clear hl;go_wp2_with fail
 exact HL.out
def G8 (g:Nat) (P:eR) (w:AI) (e:Ending) (w':AI):Prop:=∃b q r f,e= .returned (.tuple #[.pointer (some ⟨b,0,none⟩),.int .i64 0])/\Db w' b q r f g P St.empty/\(∀x∈[b,q,r,f],w.heap.size<=x)/\No w.heap.size w w'
theorem I0{g:Nat}{S:List Nat}{D:DevS}{P:eR}{w:AI}(hd:Dev w g S D)(hr:aO w)(hb:D.steps<=1000000000)(h0:dQ D=0)(hP:kQ D=P)(hf:P.m.f=0):
  aag prog 43 #[ptr g] w (G8 g P w):=by
 have HO:=sh (GA hd hr hb h0 hP);have Qv:∀W:AI,Sem.run prog (Instr.field 40 (.agg #[.int .i64 P.m.t,.int .i64 P.m.r,.int .i64 P.m.f,.int .i64 P.m.p,.int .i64 P.m.l]) 2) W= .ok (.int .i64 0) W:=fun W=>by rw[Tz,hf]
 have Sb:=sh fun(q:Nat) (W:AI)=>BR q W;have W6:=sh fun(W:AI)=>xh W;clear hd hr hb h0 hP hf;go_enter func43,ntmps43
 go_wp2_with fail
 refine HO.out.mono ?_;rintro e w1 ⟨q,hq,rfl,vw,ar⟩;have HP:=sh vw;have bh:=sh ar;have HM:=sh (mN vw);have MD:=vw.old q (by simp);clear vw ar;go_wp2_with fail
 refine HM.out.mono ?_;rintro e w2 ⟨rfl,az⟩;have bz:=sh (bh.out.trans (az.mono bh.out.size));have pE:=sh (HP.out.below az);have IP:=Nat.lt_of_lt_of_le MD az.size;clear az;go_wp2_with fail
 refine(Sb.out _ _).mono ?_;rintro e w3 ⟨f,CU,rfl,hfe,aQ⟩;have dt:=sh (bz.out.trans (aQ.mono bz.out.size));have Yx:=sh (pE.out.below aQ);have HFE:=sh hfe;have F7:w.heap.size<=f:=abE bz.out.size CU;clear aQ hfe;go_wp2_with fail
 refine(W6.out _).mono ?_;rintro e w4 ⟨rfl,Xy,b7⟩;have fx:=sh (dt.out.trans (b7.mono dt.out.size));have Yy:=sh (Yx.out.below b7);have KL:=sh Xy;have adk:Hid (∃tc,Bk w4 f 165 tc/\tc[0]? =some (.slice none 0 0)):=by
  obtain⟨tc,h1,h2⟩:=HFE.out;exact⟨tc,af h1 b7,h2⟩
 clear b7 Xy;go_wp2_with fail
 go_ret2
 refine⟨w4.heap.size,q,w3.heap.size,f,rfl,⟨Bk.new w4 _ _,Yy.out.below ((IN _ _).alloc (AS _) _),KL.out.alloc _,?_⟩,?_,fx.out.alloc fx.out.size _⟩
 ·obtain⟨tc,h1,h2⟩:=adk.out
  exact⟨tc,h1.alloc _,h2⟩
 ·intro x hx
  simp only[IT,acG,or_false]at hx;rcases hx with rfl|rfl|rfl|rfl
  ·exact fx.out.size
  ·exact hq
  ·exact dt.out.size
  ·exact F7
def Dm (n limit:Int) (w:AI) (e:Ending) (w':AI):Prop:=∃b q r f g S,e= .returned (.pointer (some ⟨b,0,none⟩))/\Db w' b q r f g (qR limit) St.empty/\Dev w' g S (cn n.toNat limit)/\(∀x∈[b,q,r,f]++S,w.heap.size<=x)/\(∀x∈[b,q,r,f],x∉S)/\No w.heap.size w w'
theorem MZ(w:AI)(hr:aO w):aag prog 80 #[.int .i64 20] w (Dm 80 20 w):=by
 have HR:=sh hr;have HN:Hid (∀W,aag prog 41 #[.int .i64 80] W (xV 80 W)):=fun W=>zU 80 W (by decide) (by decide);have HF:Hid (eS (DevS.new 80) 20=(cn 80 20,0)):=tp (by omega) (by omega);have HO:Hid (dQ (cn 80 20)=0/\kQ (cn 80 20)=qR 20):=Ai (by omega) (by omega);clear hr;go_enter func80,ntmps80
 go_wp2_with fail
 (go_at_call 41)
 refine(HN.out _).mono ?_;rintro e w1 ⟨g,S1,rfl,zh,Aq,Zn⟩;have TP:=sh zh;have H1:Hid (No w.heap.size w w1/\∀b∈S1,w.heap.size<=b):=⟨Aq,Zn⟩;clear zh Aq Zn;go_wp2_with fail
 (go_at_call 42)
 refine(oV ((wH TP.out 20 (HR.out.below H1.out.1) (GH HR.out H1.out.2) (by decide) ⟨by decide,by decide,by simp[DevS.new]⟩ 0 HF.out).mono (fun e w' h=>⟨⟨_,h.1⟩,h⟩))).mono ?_;rintro e w2 ⟨rfl,qY⟩;obtain⟨S2,mE,qT,Zo⟩:=BS H1.out.1 H1.out.2 qY;have uK:=sh mE;have H2:Hid (No w.heap.size w w2/\∀b∈S2,w.heap.size<=b):=⟨qT,Zo⟩;clear mE qT Zo qY;go_wp2_with fail
 (go_at_call 43)
 refine(I0 uK.out (HR.out.below H2.out.1) (by decide) HO.out.1 HO.out.2 rfl).mono ?_;rintro e w3 ⟨b,q,r,f,rfl,gI,oO,wL⟩;have HM:Hid (Db w3 b q r f g (qR 20) St.empty/\Dev w3 g S2 (cn 80 20)/\(∀x∈[b,q,r,f]++S2,w.heap.size<=x)/\(∀x∈[b,q,r,f],x∉S2)/\No w.heap.size w w3):=⟨gI,uK.out.below wL,fun x hx=>by
   rcases List.mem_append.1 hx with h|h
   ·exact abE H2.out.1.size (oO x h)
   ·exact H2.out.2 x h,fun x hx hs=>by have h1:=oO x hx;have h2:=uK.out.old _ hs;omega,H2.out.1.trans (wL.mono H2.out.1.size)⟩
 clear gI oO wL;go_wp2_with fail
 go_ret
 exact⟨b,q,r,f,g,S2,rfl,HM.out⟩
theorem wb{w:AI}{b q r f g sp:Nat}{P:eR}{s:St}{i t ff p l:Int}(h:Db w b q r f g P s)(hs:kd w sp b i ⟨t,0,ff,p,l⟩ false):aag prog 35 #[.pointer (some ⟨sp,0,none⟩)] w (fun e w'=>e= .returned (.tuple #[.slice none 0 0,.int .i64 0])/\No w.heap.size w w'):=by
 have HM:=sh (JD h hs);clear h hs;go_enter func35,ntmps35
 go_wp2_with fail
 refine HM.out.mono ?_;rintro e w1 ⟨rfl,hb⟩;have HB:=sh hb;clear hb;go_wp2_with fail
 go_ret2
 exact⟨rfl,HB.out⟩
theorem PZ{w:AI}{b q r f g sp:Nat}{P:eR}{s:St}{i t ff p l:Int}(v:IS)(h:Db w b q r f g P s)(hs:kd w sp b i ⟨t,0,ff,p,l⟩ false):aag prog 87 #[.pointer (some ⟨sp,0,none⟩),v] w (fun e w'=>e= .returned (.int .i64 0)/\No w.heap.size w w'):=by
 have HM:=sh (wb h hs);clear h hs;go_enter func87,ntmps87
 go_wp2_with fail
 refine HM.out.mono ?_;rintro e w1 ⟨rfl,hb⟩;have HB:=sh hb;clear hb;go_wp2_with fail
 refine acd 2 ?_;rw[abK];go_wp2_with fail
 go_ret
 exact⟨rfl,HB.out⟩
theorem Nv:∃cs:Array IS,∀W:AI,(Instr.makeSlice 51 (.int .i64 1) (.int .i64 1)).run prog W= .ok (.slice (some ⟨W.heap.size,0,none⟩) 1 1) (W.alloc (.cells cs 3)):=by
 have aad:(prog.info? 3).map (fun i=>(i.zero,i.size,i.bytes))=some (some (.int .i64 0),1,8):=by kernel_rfl
 obtain⟨i,hi,hz,hs,hb⟩:=info_parts aad;refine⟨madeCells #[.int .i64 0] 1,fun W=> ?_⟩;have hr:=run_make (P:=prog) W 51 3 i _ underlying51 hi hz .i64 .i64 1 1 (by omega) (Int.le_refl _) (by rw[hb];omega) (by omega);rw[hs]at hr;exact hr
theorem NH(v:IS)(w:AI):aag prog 86 #[v,.int .i64 1,.slice none 0 0,.slice none 0 0] w (fun e w'=>e= .returned (.tuple #[])/\No w.heap.size w w'):=by
 have hmf:∀(fn:Fn) (first cap:Array IS) (w:AI),(Instr.makeFunc fn first cap).run prog w= .ok (.func fn first cap) w:=fun _ _ _ _=>rfl;obtain⟨cs,IH⟩:=Nv;go_enter func86,ntmps86
 go_wp2_with fail
 refine acd 2 ?_;rw[abK];go_wp2_with fail
 refine acd 2 ?_;rw[abK];go_wp2_with fail
 refine acd 2 ?_;rw[abK];go_wp2_with fail
 refine bodyPost_end (results_none rfl _ _ _) rfl ?_;exact⟨rfl,(((IN _ w).alloc (AS _) _).alloc (by simp) _).alloc (by simp;omega) _⟩
def cE (t:Int):Array IS:= #[.int .i64 t,.int .i64 0,.int .i64 0,.int .i64 0,.int .i64 0,.int .i64 0,.int .i64 0,.int .i64 0]
theorem Bk.zW{w:AI}{q:Nat}{t:TypeId}{v0 v1 v2 v3 v4 v5 v6 v7:IS}(h:Bk w q t #[v0,v1,v2,v3,v4,v5,v6,v7])(a0 a1 a2 a3 a4 a5 a6 a7:IS):
  Bk ((((((((w.setCell ⟨q,0,none⟩ a0).setCell ⟨q,1,none⟩ a1).setCell ⟨q,2,none⟩ a2).setCell ⟨q,3,none⟩ a3).setCell ⟨q,4,none⟩ a4).setCell ⟨q,5,none⟩ a5).setCell ⟨q,6,none⟩ a6).setCell ⟨q,7,none⟩ a7) q t #[a0,a1,a2,a3,a4,a5,a6,a7]:=
 by
 have h0:=h.put 0 a0;have h1:=h0.put 1 a1;have h2:=h1.put 2 a2;have h3:=h2.put 3 a3;have h4:=h3.put 4 a4;have h5:=h4.put 5 a5;have h6:=h5.put 6 a6;have h7:=h6.put 7 a7;simpa using h7
theorem B1{tm:Array IS}{w:AI}{b:Nat}{c0 c1 c2 c3 c4 c5 c6 c7:IS}{x:Int}(h2:tm[2]? =some (.pointer (some ⟨b,0,none⟩)))(h3:tm[3]? =some (.int .i64 x))(h:Bk w b 69 #[c0,c1,c2,c3,c4,c5,c6,c7]):
  Sem.run prog (results f31 tm) w= .ok (.tuple #[.agg #[c0,c1,c2,c3,c4,c5,c6,c7],.int .i64 x]) w:=by
 obtain⟨y0,y1,y2,y3,y4,y5,y6,y7⟩:=h.eight;simp[results,results31,go_sem,h2,h3,y0,y1,y2,y3,y4,y5,y6,y7]
theorem Db.old{w:AI}{b q r f g:Nat}{P:eR}{s:St}(h:Db w b q r f g P s):∀x∈[b,q,r,f],x<w.heap.size:=fun x hx=>by
 obtain⟨cs,hp⟩:=h.EP;obtain⟨tc,h1,-⟩:=h.fr;simp only[IT,acG,or_false]at hx;rcases hx with rfl|rfl|rfl|rfl
 ·exact h.top.lt
 ·exact hp.lt
 ·exact h.rd.lt
 ·exact h1.lt
def rB (b q r f g sp:Nat) (P:eR) (s:St) (i:Int) (R:Nat) (w W:AI):Prop:=Db W b q r f g P s/\kd W sp b i ⟨1,0,0,1,20⟩ false/\Bk W R 69 (cE 0)/\ah [r] w W
theorem rB.names{b q r f g sp:Nat}{P:eR}{s:St}{i:Int}{R:Nat}{w W:AI}(h:rB b q r f g sp P s i R w W):aag prog 35 #[.pointer (some ⟨sp,0,none⟩)] W (fun e w'=>e= .returned (.tuple #[.slice none 0 0,.int .i64 0])/\No W.heap.size W w'):=wb h.1 h.2.1
theorem rB.each{b q r f g sp:Nat}{P:eR}{s:St}{i:Int}{R:Nat}{w W:AI}(h:rB b q r f g sp P s i R w W)(v:IS):aag prog 87 #[.pointer (some ⟨sp,0,none⟩),v] W (fun e w'=>e= .returned (.int .i64 0)/\No W.heap.size W w'):=PZ v h.1 h.2.1
theorem rB.below{b q r f g sp:Nat}{P:eR}{s:St}{i:Int}{R:Nat}{w W W':AI}(h:rB b q r f g sp P s i R w W)(hb:No W.heap.size W W'):rB b q r f g sp P s i R w W':=
 ⟨h.1.below hb,af h.2.1 hb,af h.2.2.1 hb,h.2.2.2.trans (ah.ae hb [r])⟩
theorem Lt{w:AI}{b q r f g:Nat}{P:eR}{s s':St}{i:Int}(h:Db w b q r f g P s)(hm:P.m=⟨1,0,0,1,20⟩)(hE:s.enter 1=(s',i,0)):aag prog 31 #[.pointer (some ⟨b,0,none⟩)] w (fun e w'=>e= .returned (.tuple #[.agg (cE 1),.int .i64 0])/\ah [r] w w'):=by
 have HD:=sh (h.below ((IN _ w).alloc (AS _) (.cells (cE 0) 69)));have xR:=sh (RI HD.out (by rw[hm];exact hE));have hmf:∀(fn:Fn) (first cap:Array IS) (w:AI),(Instr.makeFunc fn first cap).run prog w= .ok (.func fn first cap) w:=fun _ _ _ _=>rfl;have Ug:=sh hm;have HOL:=sh h.old;clear h hm;unfold cE at xR HD
 go_enter_defers func31,ntmps31
 go_wp2_with fail
 refine xR.out.mono ?_;rintro e w1 ⟨sp,rfl,ho,hd,hs,qo⟩;have nR:w.heap.size≠r:=fun he=>by
  have h1:=Bk.new w 69 (cE 0);unfold cE at h1;exact Bk.ne h1 HD.out.rd (by decide) he
 have h1:rB b q r f g sp P s' i w.heap.size w w1:=⟨hd,by rw[Ug.out]at hs;exact hs,ho.bk (Bk.new w 69 (cE 0)) (by simpa using nR),((ah.refl [r] w).alloc _).trans ho⟩;have H1:=sh h1;have lb:=h1.1.top.lt;have ls:=Bk.lt h1.2.1;have Sa:=sh (JG h1.1 h1.2.1);have FE:Hid (w.heap.size<=sp):=show _<=_ by simp at qo;omega
 clear h1 ho hd hs HD xR qo nR;go_wp2_with fail
 refine Sa.out.mono ?_;rintro e w2 ⟨rfl,az⟩;have h2:=H1.out.below az;have H2:=sh h2;have HME:=sh (nB h2.1);rw[Ug.out]at HME;clear h2 az H1 Sa;go_wp2_with fail
 refine HME.out.mono ?_;rintro e w3 ⟨rfl,aQ⟩;have h3:=H2.out.below aQ;have H3:=sh h3;clear h3 aQ H2 HME;go_wp2_with fail
 have hz:=Bk.new w3 40 #[.int .i64 1,.int .i64 0,.int .i64 0,.int .i64 1,.int .i64 20];have Y5:=H3.out.below ((IN _ w3).alloc (AS _) (.cells #[.int .i64 1,.int .i64 0,.int .i64 0,.int .i64 1,.int .i64 20] 40));generalize w3.alloc (.cells #[.int .i64 1,.int .i64 0,.int .i64 0,.int .i64 1,.int .i64 20] 40)=W3 at hz Y5 |-;generalize w3.heap.size=M at hz |-;have H3a:=sh Y5;have lz:=hz.lt;have lb3:=Y5.1.top.lt;have bH:=sh (show ∀W,No W3.heap.size W3 W->W.cell? ⟨M,0,none⟩=some (.int .i64 1)/\W.cell? ⟨M,3,none⟩=some (.int .i64 1) from fun W hW=>⟨(af hz hW).cell 0,(af hz hW).cell 3⟩);have HF:=sh fun(W:AI) (hW:No W3.heap.size W3 W)=>sV (Y5.1.below hW);have Xg:No W3.heap.size W3 (W3.alloc (.cells #[.int .i64 0,.int .i64 0,.int .i64 0,.int .i64 0,.int .i64 0,.int .i64 0,.int .i64 0,.int .i64 0] 69)).drew:=((IN _ W3).alloc (AS _) _).drew;have HBN:=sh Xg;clear hz Y5 lb ls H3 Xg;go_region_held3 (fun W=>W.cell? ⟨M,0,none⟩=some (.int .i64 1)/\W.cell? ⟨M,3,none⟩=some (.int .i64 1)) (first|(refine bH.out _ ?_;with_reducible (first|exact(IN _ _).drew|exact fE.out|exact HBN.out|exact(Below.alloc fE.out fE.out.size _)|exact((((((((fE.out.setCell (AS _) _).setCell (AS _) _).setCell (AS _) _).setCell (AS _) _).setCell (AS _) _).setCell (AS _) _).setCell (AS _) _).setCell (AS _) _)))|fail) (first
  | (go_at_call 21;refine(HF.out _ HBN.out).mono ?_;rintro e w4 ⟨rfl,b7⟩;have fE:=sh (show No W3.heap.size W3 w4 from HBN.out.trans (b7.mono HBN.out.size));have aU:=af ((Bk.new W3 69 #[.int .i64 0,.int .i64 0,.int .i64 0,.int .i64 0,.int .i64 0,.int .i64 0,.int .i64 0,.int .i64 0]).drew) b7;have z0:=aU.frozen 0;have z1:=aU.frozen 1;have z2:=aU.frozen 2;have z3:=aU.frozen 3;have z4:=aU.frozen 4;have z5:=aU.frozen 5;have z6:=aU.frozen 6;have z7:=aU.frozen 7;have y0:=aU.cell 0;have y1:=aU.cell 1;have y2:=aU.cell 2;have y3:=aU.cell 3;have y4:=aU.cell 4;have y5:=aU.cell 5;have y6:=aU.cell 6;have y7:=aU.cell 7;have lbk:=aU.lt;have qL:=sh aU;clear aU b7)
  | (go_at_call 21;refine(HF.out _ (IN _ _).drew).mono ?_;rintro e w4 ⟨rfl,b7⟩;have fE:=sh (show No W3.heap.size W3 w4 from (IN _ _).drew.trans b7);clear b7)
  | fail)
 all_goals
  go_wp2_with fail
  first
   | (have dO:No W3.heap.size W3 ((((((((w4.setCell ⟨W3.heap.size,0,none⟩ (.int .i64 1)).setCell ⟨W3.heap.size,1,none⟩ (.int .i64 (IntKind.i64.wrap 0))).setCell ⟨W3.heap.size,2,none⟩ (.int .i64 0)).setCell ⟨W3.heap.size,3,none⟩ (.int .i64 0)).setCell ⟨W3.heap.size,4,none⟩ (.int .i64 0)).setCell ⟨W3.heap.size,5,none⟩ (.int .i64 0)).setCell ⟨W3.heap.size,6,none⟩ (.int .i64 0)).setCell ⟨W3.heap.size,7,none⟩ (.int .i64 0)):=((((((((fE.out.setCell (AS _) _).setCell (AS _) _).setCell (AS _) _).setCell (AS _) _).setCell (AS _) _).setCell (AS _) _).setCell (AS _) _).setCell (AS _) _)
      have VW:Bk ((((((((w4.setCell ⟨W3.heap.size,0,none⟩ (.int .i64 1)).setCell ⟨W3.heap.size,1,none⟩ (.int .i64 (IntKind.i64.wrap 0))).setCell ⟨W3.heap.size,2,none⟩ (.int .i64 0)).setCell ⟨W3.heap.size,3,none⟩ (.int .i64 0)).setCell ⟨W3.heap.size,4,none⟩ (.int .i64 0)).setCell ⟨W3.heap.size,5,none⟩ (.int .i64 0)).setCell ⟨W3.heap.size,6,none⟩ (.int .i64 0)).setCell ⟨W3.heap.size,7,none⟩ (.int .i64 0)) W3.heap.size 69 (cE 1):=qL.out.zW _ _ _ _ _ _ _ _;generalize ((((((((w4.setCell ⟨W3.heap.size,0,none⟩ (.int .i64 1)).setCell ⟨W3.heap.size,1,none⟩ (.int .i64 (IntKind.i64.wrap 0))).setCell ⟨W3.heap.size,2,none⟩ (.int .i64 0)).setCell ⟨W3.heap.size,3,none⟩ (.int .i64 0)).setCell ⟨W3.heap.size,4,none⟩ (.int .i64 0)).setCell ⟨W3.heap.size,5,none⟩ (.int .i64 0)).setCell ⟨W3.heap.size,6,none⟩ (.int .i64 0)).setCell ⟨W3.heap.size,7,none⟩ (.int .i64 0))=W5 at dO VW |-;obtain⟨R2,UX⟩:∃R2,R2=W3.heap.size:=⟨_,rfl⟩;have Kc:Hid (W3.heap.size<=R2):=show _<=_ from Nat.le_of_eq UX.symm;rw[<-UX]at VW |-;clear UX)
   | (have dO:No W3.heap.size W3 (w4.alloc (.cells #[.int .i64 1,.int .i64 (IntKind.i64.wrap 0),.int .i64 0,.int .i64 0,.int .i64 0,.int .i64 0,.int .i64 0,.int .i64 0] 69)):=fE.out.alloc fE.out.size _
      have VW:Bk (w4.alloc (.cells #[.int .i64 1,.int .i64 (IntKind.i64.wrap 0),.int .i64 0,.int .i64 0,.int .i64 0,.int .i64 0,.int .i64 0,.int .i64 0] 69)) w4.heap.size 69 (cE 1):=Bk.new w4 _ _;generalize (w4.alloc (.cells #[.int .i64 1,.int .i64 (IntKind.i64.wrap 0),.int .i64 0,.int .i64 0,.int .i64 0,.int .i64 0,.int .i64 0,.int .i64 0] 69))=W5 at dO VW |-;obtain⟨R2,UX⟩:∃R2,R2=w4.heap.size:=⟨_,rfl⟩;have Kc:Hid (W3.heap.size<=R2):=show _<=_ from by rw[UX];exact fE.out.size
      rw[<-UX]at VW |-;clear UX)
   | fail
  have h5:=H3a.out.below dO;have ou:=sh dO;have sK:=sh (show ∀W,No W5.heap.size W5 W->W.cell? ⟨M,3,none⟩=some (.int .i64 1) from fun W hW=>(bH.out _ (dO.trans (hW.mono dO.size))).2);have HF5:=sh fun(W:AI) (hW:No W5.heap.size W5 W)=>sV (h5.1.below hW);have va:=sh fun(v:IS) (W:AI)=>NH v W;have H5:=sh h5;have HR5:=sh VW;clear h5 VW dO;first
   | go_region_held3 (fun W=>W.cell? ⟨M,3,none⟩=some (.int .i64 1)) (first|(refine sK.out _ ?_;with_reducible (first|exact(IN _ _).drew|exact D6.out|exact hk7.out))|fail) (first
     | (go_at_call 21;refine(HF5.out _ (IN _ _).drew).mono ?_;rintro e w6 ⟨rfl,gS⟩;have D6:=sh (show No W5.heap.size W5 w6 from (IN _ _).drew.trans gS);clear gS)
     | (go_at_call 86;refine(va.out _ _).mono ?_;rintro e w7 ⟨rfl,yn⟩;have hk7:=sh (show No W5.heap.size W5 w7 from D6.out.trans (yn.mono D6.out.size));clear yn)
     | fail)
   | fail
  have h7:=H5.out.below hk7.out;have hr7:=af HR5.out hk7.out;have HN7:=sh h7.names;have H7:=sh h7;have HR7:=sh hr7;clear h7 hr7;go_wp2_with fail
  refine HN7.out.mono ?_;rintro e w8 ⟨rfl,vj⟩;have h8:=H7.out.below vj;have Xz:=af HR7.out vj;have H8:=sh h8;have HR8:=sh Xz;have HB7:=sh (ou.out.trans (hk7.out.mono ou.out.size));have HB8:=sh (HB7.out.trans (vj.mono HB7.out.size));unfold cE at Xz;have lr8:=Xz.lt;have y6:=Xz.cell 6;have z6:=Xz.frozen 6;clear h8 Xz vj;go_wp2_with fail
  have h9:=H3a.out.below (HB8.out.setCell (p:=⟨R2,6,none⟩) Kc.out (.int .i64 0));have hr9:Bk (w8.setCell ⟨R2,6,none⟩ (.int .i64 0)) R2 69 (cE 1):=by
   have:=HR8.out.put 6 (.int .i64 0);unfold cE at this |-;simpa using this
  generalize w8.setCell ⟨R2,6,none⟩ (.int .i64 0)=w9 at h9 hr9 |-;refine(h9.each _).mono ?_;rintro e XE ⟨rfl,Ao⟩;have gd:=h9.below Ao;have QR:=af hr9 Ao;have H10:=sh gd;have qs:=gd.2.2.1;have HR:=sh qs;unfold cE at QR qs;have amA:=QR.lt;have l10:=qs.lt;obtain⟨y0,y1,y2,y3,y4,y5,y6,y7⟩:=QR.eight;obtain⟨x0,x1,x2,x3,x4,x5,x6,x7⟩:=qs.eight;have z0:=qs.frozen 0;have z1:=qs.frozen 1;have z2:=qs.frozen 2;have z3:=qs.frozen 3;have z4:=qs.frozen 4;have z5:=qs.frozen 5;have z6:=qs.frozen 6;have z7:=qs.frozen 7;clear h9 hr9 Ao gd QR qs;go_wp2_with fail
  have bS:ah [w.heap.size] XE ((((((((XE.setCell ⟨w.heap.size,0,none⟩ (.int .i64 1)).setCell ⟨w.heap.size,1,none⟩ (.int .i64 0)).setCell ⟨w.heap.size,2,none⟩ (.int .i64 0)).setCell ⟨w.heap.size,3,none⟩ (.int .i64 0)).setCell ⟨w.heap.size,4,none⟩ (.int .i64 0)).setCell ⟨w.heap.size,5,none⟩ (.int .i64 0)).setCell ⟨w.heap.size,6,none⟩ (.int .i64 0)).setCell ⟨w.heap.size,7,none⟩ (.int .i64 0)):=(((((((((ah.refl [w.heap.size] XE).setCell (.inl (by simp)) _).setCell (.inl (by simp)) _).setCell (.inl (by simp)) _).setCell (.inl (by simp)) _).setCell (.inl (by simp)) _).setCell (.inl (by simp)) _).setCell (.inl (by simp)) _).setCell (.inl (by simp)) _);have aU:Bk ((((((((XE.setCell ⟨w.heap.size,0,none⟩ (.int .i64 1)).setCell ⟨w.heap.size,1,none⟩ (.int .i64 0)).setCell ⟨w.heap.size,2,none⟩ (.int .i64 0)).setCell ⟨w.heap.size,3,none⟩ (.int .i64 0)).setCell ⟨w.heap.size,4,none⟩ (.int .i64 0)).setCell ⟨w.heap.size,5,none⟩ (.int .i64 0)).setCell ⟨w.heap.size,6,none⟩ (.int .i64 0)).setCell ⟨w.heap.size,7,none⟩ (.int .i64 0)) w.heap.size 69 (cE 1):=HR.out.zW _ _ _ _ _ _ _ _;generalize ((((((((XE.setCell ⟨w.heap.size,0,none⟩ (.int .i64 1)).setCell ⟨w.heap.size,1,none⟩ (.int .i64 0)).setCell ⟨w.heap.size,2,none⟩ (.int .i64 0)).setCell ⟨w.heap.size,3,none⟩ (.int .i64 0)).setCell ⟨w.heap.size,4,none⟩ (.int .i64 0)).setCell ⟨w.heap.size,5,none⟩ (.int .i64 0)).setCell ⟨w.heap.size,6,none⟩ (.int .i64 0)).setCell ⟨w.heap.size,7,none⟩ (.int .i64 0))=w11 at bS aU |-
  have hsr:sp≠w.heap.size:=Bk.ne H10.out.2.1 HR.out (by decide);have gI:=H10.out.1.off bS (fun x hx hm=>by rw[By]at hm;have:=HOL.out x hx;omega);have wR:kd w11 sp b i ⟨1,0,0,1,20⟩ false:=bS.bk H10.out.2.1 (by simpa using hsr);refine leaves_cons (f:=18) (args:= #[.pointer (some ⟨sp,0,none⟩)]) (by simp) (by simp[go_sem]) ?_;refine(NZ gI (by rw[Ug.out];exact wR)).mono ?_;rintro e u' w12 ⟨rfl,n,rfl,aaI,alc⟩;have afK:Bk w12 w.heap.size 69 (cE 1):=aaI.bk aU (by
   have:=HOL.out r (by simp);simp;exact⟨fun h=>hsr h.symm,by omega⟩)
  refine⟨_,B1 rfl rfl afK,rfl,?_⟩;exact((H10.out.2.2.2.then bS (fun x hx=>by rw[By]at hx;exact .inr (by omega))).then aaI (fun x hx=>by
   simp only[IT,acG,or_false]at hx;rcases hx with rfl|rfl
   ·exact .inr FE.out
   ·exact .inl (by simp)))
theorem NV(n:Int)(W:AI):(binOp .eql 69 (.agg #[.int .i64 n,.int .i64 0,.int .i64 0,.int .i64 0,.int .i64 0,.int .i64 0,.int .i64 0,.int .i64 0]) (.agg #[.int .i64 n,.int .i64 0,.int .i64 0,.int .i64 0,.int .i64 0,.int .i64 0,.int .i64 0,.int .i64 0])).run prog W= .ok (.bool true) W:=by
 rw[run_eql_struct];simp[go_sem,Result.andThen]
theorem Du(w:AI)(hr:aO w):aag prog 28 #[] w (gb true w):=by
 have HB:=sh (MZ w hr);have he:=fun W=>NV 1 W;clear hr;go_enter func28,ntmps28
 go_wp2_with fail
 refine HB.out.mono ?_;rintro e w1 ⟨b,q,r,f,g,S,rfl,gI,ZT,oO,jr,ar⟩;have HC:=sh (Lt gI rfl (s':=⟨some 1,none,none,none⟩) (i:=0) rfl);have bh:=sh ar;have Gg:=oO r (by simp);have W6:=sh Gg;clear gI ZT oO jr ar Gg;go_wp2_with fail
 refine HC.out.mono ?_;rintro e w2 ⟨rfl,ho⟩;have HO:=sh ho;unfold cE;clear ho;go_wp2_with fail
 go_ret
 exact⟨rfl,(((ah.ae bh.out []).then HO.out (fun x hx=>by rw[By]at hx;subst hx;exact .inr W6.out)).alloc _).below (AS _) (by simp)⟩
end Go.Proofs.YtjbcbnemdhbhbaaGreatDoor
