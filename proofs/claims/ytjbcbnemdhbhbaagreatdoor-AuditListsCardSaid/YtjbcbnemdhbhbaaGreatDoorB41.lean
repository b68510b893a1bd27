import Derived.Test.YtjbcbnemdhbhbaaGreatDoorB38
import Derived.Test.YtjbcbnemdhbhbaaGreatDoorB40
set_option maxRecDepth 100000
set_option linter.unusedVariables false
set_option linter.unusedSimpArgs false
set_option maxHeartbeats 40000000
open Go renaming Calls→aag,Value→IS,World→AI
open Go.Lib renaming hid→sh
open Go.Value renaming slice→acf
open List renaming mem_append→AT,mem_cons→IT,mem_singleton→By,nodup_cons→abN
namespace Go.Proofs.YtjbcbnemdhbhbaaGreatDoor
open Go.Proofs.Tryz
open Go.RowKit
theorem dp.other{E E':Kv}{w w':AI}{S:List Nat}{aa:Nat}{l:List (Nat×Nat)}{d:ag}{ch:List Nat}{f dm nn:Nat}{Sf:List Nat}{lv:IS}(h:dp E w S aa l d ch f dm nn Sf lv)(hc:Bk w' E.t 103 (aT E' ⟨aa,l,d,ch,[]⟩ f dm lv (.slice none 0 0)))(ho:ah [E.t] w w')
  (he:E'.t=E.t/\E'.b=E.b/\E'.q=E.q/\E'.r=E.r/\E'.g=E.g/\E'.T=E.T/\E'.Sd=E.Sd/\E'.P=E.P/\E'.D=E.D/\E'.s=E.s/\E'.txn=E.txn/\E'.c2=E.c2/\E'.c3=E.c3/\E'.c4=E.c4/\E'.ro=E.ro):
  dp E' w' S aa l d ch f dm nn Sf lv:=by
 have hm:=h.nodup;unfold aB at hm;have ht:=(abN.1 hm).1;have bm:∀b∈E.still,b∉[E.t]:=fun b hb hs=>by
  rw[By]at hs;subst hs;exact h.apart E.t (by simp[aB]) hb
 have vp:∀b,b∈dm::(lv.ownBlock.toList++((acf none 0 0).ownBlock.toList++Sf))->b∉[E.t]:=fun b hb hs=>by
  rw[By]at hs;subst hs;exact ht hb
 obtain⟨a1,a2,a3,a4,a5,a6,a7,a8,a9,a10,a11,a16,a17,a18,a19⟩:=he;have jx:E'.still=E.still:=by unfold Kv.still;rw[a2,a3,a4,a6,a7]
 exact⟨by rw[a1];exact hc,h.free.off ho (fun b hb=>vp b (by simp[hb])),by rw[a11];exact h.map.off ho (vp _ (by simp)),h.nn,ho.own h.loose (fun b hb=>vp b (by simp[hb])),
  by rw[a2,a3,a4,a16,a17,a18];exact ho.bk h.db (bm _ (by simp[Kv.still])),by rw[a4,a10];exact ho.bk h.rd (bm _ (by simp[Kv.still])),by rw[a3,a6,a5,a8];exact h.pg.off ho (fun b hb=>bm b (by simp[Kv.still,hb])),
  by rw[a5,a7,a9];exact h.dev.off ho (fun b hb=>bm b (by simp[Kv.still,hb])),by rw[a19];exact h.row.off ho (bm _ (by simp[Kv.still])),by rw[jx,a1];exact h.blocks,by rw[a1];exact h.nodup,by rw[jx,a1];exact h.apart⟩
theorem dp.yA{E:Kv}{w:AI}{S:List Nat}{aa:Nat}{l:List (Nat×Nat)}{d:ag}{ch:List Nat}{f dm nn:Nat}{Sf:List Nat}{lv:IS}(h:dp E w S aa l d ch f dm nn Sf lv):E.t∈S:=by rw[h.blocks];simp[aB]
theorem WE{E:Kv}(hE:E.Ok){w:AI}{S:List Nat}{σ :ag}{k nr:Nat}{Fo:Forest}(h:Wr E False w S σ k Fo nr)(nR:nr<=1000000)(IM:w.ownsRow 0 3 1 E.c3 E.pc.length (ints E.pc))(Mw:∀g,E.c3.ownBlock=some g->g∉S)
  {q:Nat} (qZ:∀(τ :ag) (G:Forest),G.Ok τ ->G.NS=Fo.NS->Tr.fa τ q G.main.root G.main.P G.main.L) (hk:Fo.NS.length*q+Fr.pieces E.limit<=k):
  aag prog 13 #[.pointer (some ⟨E.t,0,none⟩)] w (fun e w'=>e= .returned (.tuple #[.bool false,.int .i64 0])/\∃G σ' aa l d ch f dm nn Sf lv S',Laid { E with bQ:=1 } False S Fo w w' G σ' aa l d ch f dm nn Sf lv S'):=by
 obtain⟨x0,f0,dm0,lv0,fv0,hc⟩:=h.cells;have HM:=sh (kC hc (by rw[show (aT E x0 f0 dm0 lv0 fv0)[13]? =some (.bool E.over) from rfl,h.open_]));have HL:=sh (Ol hE h nR IM Mw qZ (.inr hk));have rQ:w.cell? ⟨E.t,12,none⟩=some (.int .i64 0):=by
  have h1:=hc.cell 12;rw[show (aT E x0 f0 dm0 lv0 fv0)[12]? =some (.int .i64 E.bQ) from rfl,h.first]at h1;exact h1
 have lt:=hc.lt;have J6:=sh fun(W:AI)=>pA E.t W;have j5:=sh h.first;clear h hc IM Mw hk qZ;go_enter func13,ntmps13
 go_wp2_with fail
 refine HM.out.mono ?_;rintro e w1 ⟨rfl,rfl⟩;go_wp2_with fail
 refine HL.out.mono ?_;rintro e w2 (⟨rfl,G,σ',aa,l,d,ch,f,dm,nn,Sf,lv,S',hl⟩|⟨hF,-⟩)
 ·have q12:w2.cell? ⟨E.t,12,none⟩=some (.int .i64 0):=by
   have h1:=hl.mem.cells.cell 12;rw[show (aT { E with root:=(G.main.root:Nat),yk:=(ch.headD 0:Nat) } ⟨aa,l,d,ch,[]⟩ f dm lv (.slice none 0 0))[12]? =some (.int .i64 E.bQ) from rfl,j5.out]at h1;exact h1
  have f12:w2.frozen? ⟨E.t,12,none⟩=false:=hl.mem.cells.frozen 12;have Q4:E.t<w2.heap.size:=hl.mem.cells.lt;have aU:Bk (w2.setCell ⟨E.t,12,none⟩ (.int .i64 1)) E.t 103 (aT { E with root:=(G.main.root:Nat),yk:=(ch.headD 0:Nat),bQ:=1 } ⟨aa,l,d,ch,[]⟩ f dm lv (.slice none 0 0)):=by
   have:=hl.mem.cells.put 12 (.int .i64 1);exact this
  have ho:ah [E.t] w2 (w2.setCell ⟨E.t,12,none⟩ (.int .i64 1)):=(ah.refl [E.t] w2).setCell (p:=⟨E.t,12,none⟩) (.inl (by simp)) _;have vA:E.t∈S':=hl.mem.yA;have HE:=sh (show Laid { E with bQ:=1 } False S Fo w (w2.setCell ⟨E.t,12,none⟩ (.int .i64 1)) G σ' aa l d ch f dm nn Sf lv S' from
   ⟨hl.tr,hl.NS,hl.R,hl.ok,dp.other (E':={ E with root:=(G.main.root:Nat),yk:=(ch.headD 0:Nat),bQ:=1 }) hl.mem aU ho ⟨rfl,rfl,rfl,rfl,rfl,rfl,rfl,rfl,rfl,rfl,rfl,rfl,rfl,rfl,rfl⟩,hl.off.then ho (fun b hb=>by rw[By]at hb;subst hb;exact hl.fresh _ vA),hl.fresh,hl.le,hl.perm,hl.sorted,hl.eQ,hl.tree,hl.ax,hl.chain,hl.range,hl.stamps,hl.wV,hl.room,hl.oG⟩)
  clear hl aU ho vA;go_wp2_with fail
  refine(J6.out _).mono ?_;rintro e w4 ⟨rfl,rfl⟩;go_wp2_with fail
  go_ret2
  exact⟨rfl,G,σ',aa,l,d,ch,f,dm,nn,Sf,lv,S',HE.out⟩
 ·exact absurd hF (fun h=>h)
theorem WG{E:Kv}{w:AI}{S:List Nat}{aa:Nat}{l:List (Nat×Nat)}{d:ag}{ch:List Nat}{f dm nn:Nat}{Sf:List Nat}{lv:IS}(h:dp E w S aa l d ch f dm nn Sf lv)(hs:E.Sep)(oQ:E.over=false)(Gl:E.bQ=1)(gf:∀n p,d n=some p->cw p.kind n E.txn p.body=true/\(n:Int)<E.P.m.l/\4*n+4<=E.D.sec.length)(bm:E.D.steps<=999990000)(D8:E.P.log.length<=900000)
  {D':DevS} (aa0:kx E.txn d (keysOf d) E.D=(D',0)):
  aag prog 13 #[.pointer (some ⟨E.t,0,none⟩)] w (fun e w'=>e= .returned (.tuple #[.bool false,.int .i64 0])/\∃(T' cQ:List Nat) (P':eR) (S':List Nat) (m:Nat),dp { E.dev T' cQ P' D' with bQ:=2 } w' S' aa l d ch f dm nn Sf lv/\(E.dev T' cQ P' D').Sep/\ah S w w'/\aj w S S'/\
   P'={ E.P with log:=E.P.log++((keysOf d).take m).map (fun(n:Nat)=>(n:Int)) }/\D'.steps<=E.D.steps+2048/\D'.sec.length=E.D.sec.length):=by
 have HM:=sh (kC h.cells (by rw[show (aT E ⟨aa,l,d,ch,[]⟩ f dm lv (.slice none 0 0))[13]? =some (.bool E.over) from rfl,oQ]));have HW:=sh (Fm h hs oQ gf bm D8);have rQ:w.cell? ⟨E.t,12,none⟩=some (.int .i64 1):=by
  have h1:=h.cells.cell 12;rw[show (aT E ⟨aa,l,d,ch,[]⟩ f dm lv (.slice none 0 0))[12]? =some (.int .i64 E.bQ) from rfl,Gl]at h1;exact h1
 have lt:=h.cells.lt;have J6:=sh fun(W:AI)=>pA E.t W;have HP:=sh aa0;have YJ:=sh Gl;clear h hs oQ Gl gf bm D8 aa0;go_enter func13,ntmps13
 go_wp2_with fail
 refine HM.out.mono ?_;rintro e w1 ⟨rfl,rfl⟩;go_wp2_with fail
 refine HW.out.mono ?_;rintro e w2 ⟨r,T',cQ,P',D2,S',m,rfl,kY,hl,iQ,bS,bZ,zk,jw,SZ⟩;rw[HP.out]at kY;injection kY with AU qY;subst AU qY;have q12:w2.cell? ⟨E.t,12,none⟩=some (.int .i64 1):=by
  have h1:=hl.cells.cell 12;rw[show (aT (E.dev T' cQ P' D') ⟨aa,l,d,ch,[]⟩ f dm lv (.slice none 0 0))[12]? =some (.int .i64 E.bQ) from rfl,YJ.out]at h1;exact h1
 have f12:w2.frozen? ⟨E.t,12,none⟩=false:=hl.cells.frozen 12;have Q4:E.t<w2.heap.size:=hl.cells.lt;have aU:Bk (w2.setCell ⟨E.t,12,none⟩ (.int .i64 2)) E.t 103 (aT { E.dev T' cQ P' D' with bQ:=2 } ⟨aa,l,d,ch,[]⟩ f dm lv (.slice none 0 0)):=by
  have:=hl.cells.put 12 (.int .i64 2);exact this
 have ho:ah [E.t] w2 (w2.setCell ⟨E.t,12,none⟩ (.int .i64 2)):=(ah.refl [E.t] w2).setCell (p:=⟨E.t,12,none⟩) (.inl (by simp)) _;have vA:E.t∈S':=hl.yA;have HE:=sh (show _ from (⟨dp.other (E':={ E.dev T' cQ P' D' with bQ:=2 }) hl aU ho ⟨rfl,rfl,rfl,rfl,rfl,rfl,rfl,rfl,rfl,rfl,rfl,rfl,rfl,rfl,rfl⟩,iQ,bS.then ho (fun b hb=>by rw[By]at hb;subst hb;exact bZ _ vA),bZ,zk,jw,SZ⟩:dp { E.dev T' cQ P' D' with bQ:=2 } (w2.setCell ⟨E.t,12,none⟩ (.int .i64 2)) S' aa l d ch f dm nn Sf lv/\(E.dev T' cQ P' D').Sep/\ah S w (w2.setCell ⟨E.t,12,none⟩ (.int .i64 2))/\aj w S S'/\
   P'={ E.P with log:=E.P.log++((keysOf d).take m).map (fun(n:Nat)=>(n:Int)) }/\D'.steps<=E.D.steps+2048/\D'.sec.length=E.D.sec.length))
 clear hl iQ bS bZ zk jw SZ aU ho vA;go_wp2_with fail
 refine(J6.out _).mono ?_;rintro e w4 ⟨rfl,rfl⟩;go_wp2_with fail
 go_ret2
 exact⟨rfl,T',cQ,P',S',m,HE.out⟩
theorem Jp{w:AI}{q g:Nat}{T S:List Nat}{P:eR}{D D':DevS}{r:Int}(hp:Pg w q T g P)(hd:Dev w g S D)(hb:D.steps<=1000000000)(hw:D.sync=(D',r)):
  aag prog 52 #[.pointer (some ⟨q,0,none⟩)] w (gl g S D' (.int .i64 r) w):=by
 obtain⟨sl,lg,kY⟩:=hp;have c0:w.cell? ⟨q,0,none⟩=some (ptr g):=kY.cells.cell 0;have lq:=kY.cells.lt;have HS:=sh (nD hd D' r hb hw);clear kY hd hb hw;go_enter func52,ntmps52
 go_wp2_with fail
 refine HS.out.mono ?_;rintro e w1 ⟨rfl,S1,zh,qW,OU⟩;have HE:=sh (show gl g S D' (.int .i64 r) w (.returned (.int .i64 r)) w1 from ⟨rfl,S1,zh,qW,OU⟩);clear zh qW OU;go_wp2_with fail
 go_ret
 exact HE.out
theorem WH{E:Kv}{w:AI}{S:List Nat}{aa:Nat}{l:List (Nat×Nat)}{d:ag}{ch:List Nat}{f dm nn:Nat}{Sf:List Nat}{lv:IS}(h:dp E w S aa l d ch f dm nn Sf lv)(hs:E.Sep)(oQ:E.over=false)(Gl:E.bQ=2)(bm:E.D.steps<=1000000000)
  {D':DevS} (hsy:E.D.sync=(D',0)):
  aag prog 13 #[.pointer (some ⟨E.t,0,none⟩)] w (fun e w'=>e= .returned (.tuple #[.bool false,.int .i64 0])/\∃(cQ:List Nat) (S':List Nat),dp { E.dev E.T cQ E.P D' with bQ:=3 } w' S' aa l d ch f dm nn Sf lv/\(E.dev E.T cQ E.P D').Sep/\ah S w w'/\aj w S S'):=by
 have HM:=sh (kC h.cells (by rw[show (aT E ⟨aa,l,d,ch,[]⟩ f dm lv (.slice none 0 0))[13]? =some (.bool E.over) from rfl,oQ]));have HW:=sh (Jp h.pg h.dev bm hsy);have rQ:w.cell? ⟨E.t,12,none⟩=some (.int .i64 2):=by
  have h1:=h.cells.cell 12;rw[show (aT E ⟨aa,l,d,ch,[]⟩ f dm lv (.slice none 0 0))[12]? =some (.int .i64 E.bQ) from rfl,Gl]at h1;exact h1
 have c0:w.cell? ⟨E.t,0,none⟩=some (.pointer (some ⟨E.b,0,none⟩)):=h.cells.cell 0;have d0:w.cell? ⟨E.b,0,none⟩=some (.pointer (some ⟨E.q,0,none⟩)):=h.db.cell 0;have lt:=h.cells.lt;have lb:=h.db.lt;have J6:=sh fun(W:AI)=>pA E.t W;have H:=sh h;have HS:=sh hs;have YJ:=sh Gl;clear h hs oQ Gl bm hsy;go_enter func13,ntmps13
 go_wp2_with fail
 refine HM.out.mono ?_;rintro e w1 ⟨rfl,rfl⟩;go_wp2_with fail
 refine HW.out.mono ?_;rintro e w2 ⟨rfl,cQ,hd',hod,Iz⟩;have hoT:ah (E.Sd++E.T) w w2:=hod.mono (fun b hb=> .inl (by simp[hb]));have Zu:∀b∈E.T,b∉cQ:=fun b hb hm=>by
  rcases Iz b hm with h9|h9
  ·exact HS.out.ap b hb h9
  ·have:=H.out.pg.old b hb;omega
 obtain⟨S',hl,iQ,bS,bZ⟩:=H.out.Gz HS.out hd' (H.out.pg.off hod HS.out.ap) Zu hoT Iz (aj.refl _ _);have q12:w2.cell? ⟨E.t,12,none⟩=some (.int .i64 2):=by
  have h1:=hl.cells.cell 12;rw[show (aT (E.dev E.T cQ E.P D') ⟨aa,l,d,ch,[]⟩ f dm lv (.slice none 0 0))[12]? =some (.int .i64 E.bQ) from rfl,YJ.out]at h1;exact h1
 have f12:w2.frozen? ⟨E.t,12,none⟩=false:=hl.cells.frozen 12;have Q4:E.t<w2.heap.size:=hl.cells.lt;have aU:Bk (w2.setCell ⟨E.t,12,none⟩ (.int .i64 3)) E.t 103 (aT { E.dev E.T cQ E.P D' with bQ:=3 } ⟨aa,l,d,ch,[]⟩ f dm lv (.slice none 0 0)):=by
  have:=hl.cells.put 12 (.int .i64 3);exact this
 have ho:ah [E.t] w2 (w2.setCell ⟨E.t,12,none⟩ (.int .i64 3)):=(ah.refl [E.t] w2).setCell (p:=⟨E.t,12,none⟩) (.inl (by simp)) _;have vA:E.t∈S':=hl.yA;have HE:=sh (show dp { E.dev E.T cQ E.P D' with bQ:=3 } (w2.setCell ⟨E.t,12,none⟩ (.int .i64 3)) S' aa l d ch f dm nn Sf lv/\(E.dev E.T cQ E.P D').Sep/\ah S w (w2.setCell ⟨E.t,12,none⟩ (.int .i64 3))/\aj w S S' from ⟨dp.other (E':={ E.dev E.T cQ E.P D' with bQ:=3 }) hl aU ho ⟨rfl,rfl,rfl,rfl,rfl,rfl,rfl,rfl,rfl,rfl,rfl,rfl,rfl,rfl,rfl⟩,iQ,bS.then ho (fun b hb=>by rw[By]at hb;subst hb;exact bZ _ vA),bZ⟩);clear hl iQ bS bZ aU ho vA hd' hod Iz hoT Zu;go_wp2_with fail
 refine(J6.out _).mono ?_;rintro e w4 ⟨rfl,rfl⟩;go_wp2_with fail
 go_ret2
 exact⟨rfl,cQ,S',HE.out⟩
def Kv.fG (E:Kv) (aa:Nat):aL:=⟨E.txn,E.root,E.yk,aa,E.limit⟩
theorem WI{E:Kv}{w:AI}{S:List Nat}{aa:Nat}{l:List (Nat×Nat)}{d:ag}{ch:List Nat}{f dm nn:Nat}{Sf:List Nat}{lv:IS}(h:dp E w S aa l d ch f dm nn Sf lv)(hs:E.Sep)(oQ:E.over=false)(Gl:E.bQ=3)(bm:E.D.steps<=1000000000)(vx:E.P.bC=none)(hm:(E.fG aa).ok=true)(hl:(E.limit:Int)=E.P.m.l)(ht:(E.txn:Int)=E.P.m.t+1)(V8:0<=E.P.m.t)
  {D':DevS} (hw:E.D.write ((E.txn:Int)%2) (E.fG aa).bytes=(D',0)):
  aag prog 13 #[.pointer (some ⟨E.t,0,none⟩)] w (fun e w'=>e= .returned (.tuple #[.bool false,.int .i64 0])/\∃(T' cQ S':List Nat),dp { E.dev T' cQ { E.P with bC:=some (E.fG aa) } D' with bQ:=4 } w' S' aa l d ch f dm nn Sf lv/\(E.dev T' cQ { E.P with bC:=some (E.fG aa) } D').Sep/\ah S w w'/\aj w S S'):=by
 have HM:=sh (kC h.cells (by rw[show (aT E ⟨aa,l,d,ch,[]⟩ f dm lv (.slice none 0 0))[13]? =some (.bool E.over) from rfl,oQ]));have HW:=sh (show aag prog 53 #[.pointer (some ⟨E.q,0,none⟩),.agg #[.int .i64 E.txn,.int .i64 E.root,.int .i64 E.yk,.int .i64 aa,.int .i64 E.limit]] w.drew (jq E.g E.q E.Sd E.T D' { E.P with bC:=some (E.fG aa) } 0 w.drew) from by
  have h1:=N0 (h.dev.off ((ah.refl [] w).drew) (by simp)) (h.pg.off ((ah.refl [] w).drew) (by simp)) hs.ap (h.row.off ((ah.refl [] w).drew) (by simp)).1 hs.s.2.2 vx (E.fG aa) hm hl ht V8 bm 0 hw;rw[if_pos rfl]at h1;exact h1)
 have rQ:w.cell? ⟨E.t,12,none⟩=some (.int .i64 3):=by
  have h1:=h.cells.cell 12;rw[show (aT E ⟨aa,l,d,ch,[]⟩ f dm lv (.slice none 0 0))[12]? =some (.int .i64 E.bQ) from rfl,Gl]at h1;exact h1
 have lt:=h.cells.lt;have lb:=h.db.lt;have J6:=sh fun(W:AI)=>pA E.t W;have H:=sh h;have HS:=sh hs;have YJ:=sh Gl;have MJ:E.t∉E.Sd++E.T:=fun hm=>h.apart E.t (by simp[aB]) (by
  rcases AT.1 hm with hm|hm
  ·simp[Kv.still,hm]
  ·simp[Kv.still,hm])
 have Zz:E.b∉E.Sd++E.T:=fun hm=>by
  rcases AT.1 hm with hm|hm
  ·exact hs.s.1 hm
  ·exact hs.t.1 hm
 have bH:=sh (show ∀W,ah (E.Sd++E.T) w W->W.cell? ⟨E.t,0,none⟩=some (.pointer (some ⟨E.b,0,none⟩))/\W.cell? ⟨E.b,0,none⟩=some (.pointer (some ⟨E.q,0,none⟩))/\W.cell? ⟨E.t,2,none⟩=some (.int .i64 E.txn)/\W.cell? ⟨E.t,3,none⟩=some (.int .i64 E.root)/\W.cell? ⟨E.t,4,none⟩=some (.int .i64 E.yk)/\W.cell? ⟨E.t,5,none⟩=some (.int .i64 aa)/\W.cell? ⟨E.t,6,none⟩=some (.int .i64 E.limit) from fun W hW=>
  ⟨(hW.bk h.cells MJ).cell 0,(hW.bk h.db Zz).cell 0,(hW.bk h.cells MJ).cell 2,(hW.bk h.cells MJ).cell 3,(hW.bk h.cells MJ).cell 4,(hW.bk h.cells MJ).cell 5,(hW.bk h.cells MJ).cell 6⟩)
 clear h hs oQ Gl bm vx hm hl ht V8 hw MJ Zz;go_enter func13,ntmps13
 go_wp2_with fail
 refine HM.out.mono ?_;rintro e w1 ⟨rfl,rfl⟩;go_wp2_with fail
 go_region_held3 (fun W=>W.cell? ⟨E.t,0,none⟩=some (.pointer (some ⟨E.b,0,none⟩))/\W.cell? ⟨E.b,0,none⟩=some (.pointer (some ⟨E.q,0,none⟩))/\W.cell? ⟨E.t,2,none⟩=some (.int .i64 E.txn)/\W.cell? ⟨E.t,3,none⟩=some (.int .i64 E.root)/\W.cell? ⟨E.t,4,none⟩=some (.int .i64 E.yk)/\W.cell? ⟨E.t,5,none⟩=some (.int .i64 aa)/\W.cell? ⟨E.t,6,none⟩=some (.int .i64 E.limit)) (first|exact bH.out _ (ah.refl _ _).drew|exact bH.out _ uV.out)
  (first
  | (go_at_call 53;refine HW.out.mono ?_;intro e w2 pJ;obtain⟨rfl,-⟩:=id pJ;have zz:=sh pJ;have uV:=sh (show ah (E.Sd++E.T) w w2 from by obtain⟨-,_,_,-,-,-,q4,-,-⟩:=pJ;exact((ah.refl (E.Sd++E.T) w).drew).trans q4);clear pJ)
  | fail)
 all_goals
  obtain⟨-,cQ,T',hd',lR,LZ,-,Iz,Vm⟩:=zz.out;obtain⟨S',hl,iQ,bS,bZ⟩:=H.out.Gz HS.out hd' lR LZ uV.out (Iz.mono (by simp)) (Vm.mono (by simp));have q12:w2.cell? ⟨E.t,12,none⟩=some (.int .i64 3):=by
   have h1:=hl.cells.cell 12;rw[show (aT (E.dev T' cQ { E.P with bC:=some (E.fG aa) } D') ⟨aa,l,d,ch,[]⟩ f dm lv (.slice none 0 0))[12]? =some (.int .i64 E.bQ) from rfl,YJ.out]at h1;exact h1
  have f12:w2.frozen? ⟨E.t,12,none⟩=false:=hl.cells.frozen 12;have Q4:E.t<w2.heap.size:=hl.cells.lt;have aU:Bk (w2.setCell ⟨E.t,12,none⟩ (.int .i64 4)) E.t 103 (aT { E.dev T' cQ { E.P with bC:=some (E.fG aa) } D' with bQ:=4 } ⟨aa,l,d,ch,[]⟩ f dm lv (.slice none 0 0)):=by
   have:=hl.cells.put 12 (.int .i64 4);exact this
  have ho:ah [E.t] w2 (w2.setCell ⟨E.t,12,none⟩ (.int .i64 4)):=(ah.refl [E.t] w2).setCell (p:=⟨E.t,12,none⟩) (.inl (by simp)) _;have vA:E.t∈S':=hl.yA;have HE:=sh (show dp { E.dev T' cQ { E.P with bC:=some (E.fG aa) } D' with bQ:=4 } (w2.setCell ⟨E.t,12,none⟩ (.int .i64 4)) S' aa l d ch f dm nn Sf lv/\(E.dev T' cQ { E.P with bC:=some (E.fG aa) } D').Sep/\ah S w (w2.setCell ⟨E.t,12,none⟩ (.int .i64 4))/\aj w S S' from ⟨dp.other (E':={ E.dev T' cQ { E.P with bC:=some (E.fG aa) } D' with bQ:=4 }) hl aU ho ⟨rfl,rfl,rfl,rfl,rfl,rfl,rfl,rfl,rfl,rfl,rfl,rfl,rfl,rfl,rfl⟩,iQ,bS.then ho (fun b hb=>by rw[By]at hb;subst hb;exact bZ _ vA),bZ⟩);clear hl iQ bS bZ aU ho vA hd' lR LZ Iz Vm uV;go_wp2_with fail
  refine(J6.out _).mono ?_;rintro e w4 ⟨rfl,rfl⟩;go_wp2_with fail
  go_ret2
  exact⟨rfl,T',cQ,S',HE.out⟩
structure xI (E:Kv) (S:List Nat) (l:List (Nat×Nat)) (ch:List Nat) (f:Nat) (Sf:List Nat) (lv:IS) (P':eR) (D':DevS) (w w':AI) (T' cQ:List Nat) (ov:Bool):Prop where
 db:gK w' ⟨E.b,E.q,E.r,f,E.g,T',Sf,P',E.s,l,lv,ch,E.c4⟩
 dev:Dev w' E.g cQ D'
 row:kG E.ro w'
 txn:∃cs,Bk w' E.t 103 cs/\cs[13]? =some (.bool ov)
 sep:(E.dev T' cQ P' D').Sep
 off:ah S w w'
 fT:aj w E.T T'
 fS:aj w E.Sd cQ
theorem JL{E:Kv}{w:AI}{S:List Nat}{aa:Nat}{l:List (Nat×Nat)}{d:ag}{ch:List Nat}{f dm nn:Nat}{Sf:List Nat}{lv:IS}(h:dp E w S aa l d ch f dm nn Sf lv)(hs:E.Sep)(bm:E.D.steps<=1000000000){m:aL}(vx:E.P.bC=some m){D':DevS}(hw:E.D.sync=(D',0)):
  aag prog 54 #[.pointer (some ⟨E.t,0,none⟩)] w (fun e w'=>e= .returned (.int .i64 0)/\∃T' cQ,xI E S l ch f Sf lv ⟨m,E.P.m,true,none,E.P.log⟩ D' w w' T' cQ E.over):=by
 obtain⟨A,c,Xq,-,-⟩:=bg h.loose;subst Xq;have HD:=sh (show aag prog 119 #[.pointer (some ⟨E.q,0,none⟩)] w (jq E.g E.q E.Sd E.T D' ⟨m,E.P.m,true,none,E.P.log⟩ 0 w) from by
  have h1:=LH h.dev h.pg hs.ap m vx bm 0 hw;rw[if_pos rfl]at h1;exact h1)
 have c0:w.cell? ⟨E.t,0,none⟩=some (.pointer (some ⟨E.b,0,none⟩)):=h.cells.cell 0;have d0:w.cell? ⟨E.b,0,none⟩=some (.pointer (some ⟨E.q,0,none⟩)):=h.db.cell 0;have lt:=h.cells.lt;have lb:=h.db.lt;have H:=sh h;have HS:=sh hs;clear h hs bm vx hw;go_enter func54,ntmps54
 go_wp2_with fail
 refine HD.out.mono ?_;rintro e w2 ⟨rfl,cQ,T',hd',lR,LZ,ho',Iz,Vm⟩;obtain⟨S',hl,iQ,bS,bZ⟩:=H.out.Gz HS.out hd' lR LZ ho' Iz Vm;have q0:w2.cell? ⟨E.t,0,none⟩=some (.pointer (some ⟨E.b,0,none⟩)):=hl.cells.cell 0;have q7:w2.cell? ⟨E.t,7,none⟩=some (.pointer (some ⟨f,0,none⟩)):=hl.cells.cell 7;have q9:w2.cell? ⟨E.t,9,none⟩=some (.slice A ch.length c):=hl.cells.cell 9;have b2:w2.cell? ⟨E.b,2,none⟩=some E.c2:=hl.db.cell 2;have b3:w2.cell? ⟨E.b,3,none⟩=some E.c3:=hl.db.cell 3;have fb2:w2.frozen? ⟨E.b,2,none⟩=false:=hl.db.frozen 2;have fb3:w2.frozen? ⟨E.b,3,none⟩=false:=hl.db.frozen 3;have Q4:E.t<w2.heap.size:=hl.cells.lt;have lb2:E.b<w2.heap.size:=hl.db.lt;have hbt:E.b≠E.t:=hl.db.ne hl.cells (by decide);have gI:Bk ((w2.setCell ⟨E.b,2,none⟩ (.pointer (some ⟨f,0,none⟩))).setCell ⟨E.b,3,none⟩ (.slice A ch.length c)) E.b 99 #[.pointer (some ⟨E.q,0,none⟩),.pointer (some ⟨E.r,0,none⟩),.pointer (some ⟨f,0,none⟩),.slice A ch.length c,E.c4]:=(hl.db.put 2 (.pointer (some ⟨f,0,none⟩))).put 3 (.slice A ch.length c);have vt:ah [E.b] w2 ((w2.setCell ⟨E.b,2,none⟩ (.pointer (some ⟨f,0,none⟩))).setCell ⟨E.b,3,none⟩ (.slice A ch.length c)):=((ah.refl [E.b] w2).setCell (p:=⟨E.b,2,none⟩) (.inl (by simp)) _).setCell (p:=⟨E.b,3,none⟩) (.inl (by simp)) _
 have bV:=sh (show ∀W',Bk W' E.b 99 #[.pointer (some ⟨E.q,0,none⟩),.pointer (some ⟨E.r,0,none⟩),.pointer (some ⟨f,0,none⟩),.slice A ch.length c,E.c4]->ah [E.b] w2 W'->xI E S l ch f Sf (.slice A ch.length c) ⟨m,E.P.m,true,none,E.P.log⟩ D' w W' T' cQ E.over from fun W' aU vt=>by
  have QC:∀b∈aB E.t f dm Sf (.slice A ch.length c) (.slice none 0 0),b≠E.b:=fun b hb e=>hl.apart b hb (by rw[e];simp[Kv.still,Kv.dev]);have iP:∀b,b∈aB E.t f dm Sf (.slice A ch.length c) (.slice none 0 0)->b∉[E.b]:=fun b hb hm=>by rw[By]at hm;exact QC b hb hm
  have hrb:E.r∉[E.b]:=fun hm=>by
   rw[By]at hm;exact(hl.rd.ne hl.db (by decide)) hm
  have hTb:∀b∈T',b∉[E.b]:=fun b hb hm=>by
   rw[By]at hm;subst hm;exact iQ.t.1 hb
  have hSb:∀b∈cQ,b∉[E.b]:=fun b hb hm=>by
   rw[By]at hm;subst hm;exact iQ.s.1 hb
  have CS:0∉[E.b]:=fun hm=>by
   rw[By]at hm;have h1:=hl.row.1 0 (by decide);have h2:w2.cell? ⟨E.b,0,none⟩=some (.pointer (some ⟨E.q,0,none⟩)):=hl.db.cell 0;have e9:(⟨0,0,none⟩:Addr)=⟨E.b,0,none⟩:=congrArg (fun b=>(⟨b,0,none⟩:Addr)) hm;rw[e9,h2]at h1;cases h1
  have hbS:E.b∈S:=by rw[H.out.blocks];simp[Kv.still]
  have dv:∀x,x∈T'++(Sf++(acf A ch.length c).ownBlock.toList)->x=E.b\/x=E.r->False:=fun x hx he=>by
   rcases AT.1 hx with hx|hx
   ·rcases he with rfl|rfl
    ·exact iQ.t.1 hx
    ·exact iQ.t.2.1 hx
   ·have hxm:x∈aB E.t f dm Sf (.slice A ch.length c) (.slice none 0 0):=by
     rcases AT.1 hx with hx|hx
     ·simp[aB,hx]
     ·simp only[aB,IT,AT]
      exact .inr (.inr (.inl hx))
    exact hl.apart x hxm (by rcases he with rfl|rfl<;>simp[Kv.still,Kv.dev])
  refine⟨⟨aU,hl.pg.off vt hTb,vt.bk hl.rd hrb,(hl.free.off vt (fun b hb=>iP b (by simp[aB,hb]))).fl,vt.own hl.loose (fun b hb=>iP b (by simp only[aB,IT,AT,Option.mem_toList];exact .inr (.inr (.inl hb)))),fun hm=>dv _ hm (.inl rfl),fun hm=>dv _ hm (.inr rfl)⟩,hl.dev.off vt hSb,hl.row.off vt CS,⟨_,vt.bk hl.cells (iP _ (by simp[aB,Kv.dev])),rfl⟩,iQ,bS.then vt (fun b hb=>by rw[By]at hb;subst hb;exact .inl hbS),Vm,Iz⟩)
 clear hl iQ bS bZ hd' lR LZ ho' Iz Vm vt;have KD:=sh gI;clear gI;go_wp2_with fail
 go_region
 all_goals
  go_wp2_with fail
  go_region
  all_goals
   go_wp2_with fail
   go_ret
   exact⟨rfl,T',cQ,bV.out _ KD.out (((ah.refl [E.b] w2).setCell (p:=⟨E.b,2,none⟩) (.inl (by simp)) _).setCell (p:=⟨E.b,3,none⟩) (.inl (by simp)) _).drew.drew⟩
theorem WJ{E:Kv}{w:AI}{S:List Nat}{aa:Nat}{l:List (Nat×Nat)}{d:ag}{ch:List Nat}{f dm nn:Nat}{Sf:List Nat}{lv:IS}(h:dp E w S aa l d ch f dm nn Sf lv)(hs:E.Sep)(oQ:E.over=false)(Gl:E.bQ=4)(bm:E.D.steps<=1000000000){m:aL}(vx:E.P.bC=some m){D':DevS}(hw:E.D.sync=(D',0)):
  aag prog 13 #[.pointer (some ⟨E.t,0,none⟩)] w (fun e w'=>e= .returned (.tuple #[.bool true,.int .i64 0])/\∃T' cQ,xI E S l ch f Sf lv ⟨m,E.P.m,true,none,E.P.log⟩ D' w w' T' cQ true):=by
 have HM:=sh (kC h.cells (by rw[show (aT E ⟨aa,l,d,ch,[]⟩ f dm lv (.slice none 0 0))[13]? =some (.bool E.over) from rfl,oQ]));have HW:=sh (JL h hs bm vx hw);have rQ:w.cell? ⟨E.t,12,none⟩=some (.int .i64 4):=by
  have h1:=h.cells.cell 12;rw[show (aT E ⟨aa,l,d,ch,[]⟩ f dm lv (.slice none 0 0))[12]? =some (.int .i64 E.bQ) from rfl,Gl]at h1;exact h1
 have lt:=h.cells.lt;have vA:=h.yA;have vq:∀b,b∈E.b::E.r::0::(E.T++E.Sd)->b≠E.t:=fun b hb e=>by
  subst e;refine h.apart E.t (by simp[aB]) ?_;simp only[IT,AT]at hb;simp only[Kv.still,IT,AT];rcases hb with hb|hb|hb|hb|hb
  ·exact .inl hb
  ·exact .inr (.inr (.inl hb))
  ·exact .inr (.inr (.inr (.inl hb)))
  ·exact .inr (.inr (.inr (.inr (.inl hb))))
  ·exact .inr (.inr (.inr (.inr (.inr hb))))
 have hsf:∀b,b∈Sf++lv.ownBlock.toList->b≠E.t:=fun b hb e=>by
  subst e;have hn:=h.nodup;unfold aB at hn;refine(abN.1 hn).1 ?_;rcases AT.1 hb with hb|hb
  ·simp[hb]
  ·simp only[IT,AT]
   exact .inr (.inl hb)
 have Yf:=sh vq;have YI:=sh hsf;have PA:=sh vA;clear h hs oQ Gl bm vx hw vq hsf vA;go_enter func13,ntmps13
 go_wp2_with fail
 refine HM.out.mono ?_;rintro e w1 ⟨rfl,rfl⟩;go_wp2_with fail
 refine HW.out.mono ?_;rintro e w2 ⟨rfl,T',cQ,hd⟩;obtain⟨cs,k1,k2⟩:=hd.txn;have q13:=(k1.cell 13).trans k2;have f13:=k1.frozen 13;have Q4:=k1.lt;have bS:ah [E.t] w2 (w2.setCell ⟨E.t,13,none⟩ (.bool true)):=(ah.refl [E.t] w2).setCell (p:=⟨E.t,13,none⟩) (.inl (by simp)) _;have hTt:∀b∈T',b∉[E.t]:=fun b hb hm=>by
  rw[By]at hm;rcases hd.fT b hb with h9|h9
  ·exact Yf.out b (by simp[h9]) hm
  ·omega
 have hSt:∀b∈cQ,b∉[E.t]:=fun b hb hm=>by
  rw[By]at hm;rcases hd.fS b hb with h9|h9
  ·exact Yf.out b (by simp[h9]) hm
  ·omega
 have HE:=sh (show xI E S l ch f Sf lv ⟨m,E.P.m,true,none,E.P.log⟩ D' w (w2.setCell ⟨E.t,13,none⟩ (.bool true)) T' cQ true from
  ⟨hd.db.off bS (fun b hb=>by
   simp only[Di.blocks,IT,AT]at hb;rcases hb with rfl|rfl|hb|hb|hb
   ·intro hm;rw[By]at hm;exact Yf.out E.b (by simp) hm
   ·intro hm;rw[By]at hm;exact Yf.out E.r (by simp) hm
   ·exact hTt b hb
   ·intro hm;rw[By]at hm;exact YI.out b (by simp[hb]) hm
   ·intro hm;rw[By]at hm;exact YI.out b (AT.2 (.inr hb)) hm),hd.dev.off bS hSt,hd.row.off bS (fun hm=>by rw[By]at hm;exact Yf.out _ (by simp) hm),⟨_,k1.put 13 (.bool true),by
   rw[Array.getElem?_setIfInBounds_self];have:13<cs.size:=by
    by_cases hc:13<cs.size
    ·exact hc
    ·rw[Array.getElem?_eq_none (Nat.le_of_not_lt hc)]at k2;cases k2
   simp[this]⟩,hd.sep,hd.off.then bS (fun b hb=>by rw[By]at hb;subst hb;exact .inl PA.out),hd.fT,hd.fS⟩)
 clear hd bS hTt hSt k1 k2;go_wp2_with fail
 go_ret2
 exact⟨rfl,T',cQ,HE.out⟩
end Go.Proofs.YtjbcbnemdhbhbaaGreatDoor
