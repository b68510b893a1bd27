import Derived.Test.YtjbcbnemdhbhbaaGreatDoorA38
import Derived.Test.YtjbcbnemdhbhbaaGreatDoorA39
set_option maxRecDepth 100000
set_option linter.unusedVariables false
set_option linter.unusedSimpArgs false
set_option maxHeartbeats 40000000
open Go renaming Calls→aaf,Value→No,World→AI
open Go.Lib renaming hid→sh
open Go.Value renaming slice→abZ
open List renaming mem_append→By,mem_cons→OF,mem_singleton→IN,nodup_cons→abJ
namespace Go.Proofs.YtjbcbnemdhbhbaaGreatDoor
open Go.Proofs.Tryz
open Go.RowKit
theorem dp.other{E E':Kv}{w w':AI}{S:List Nat}{aa:Nat}{l:List (Nat×Nat)}{d:ag}{ch:List Nat}{f dm nn:Nat}{Sf:List Nat}{lv:No}(h:dp E w S aa l d ch f dm nn Sf lv)(hc:Bk w' E.t 103 (aO E' ⟨aa,l,d,ch,[]⟩ f dm lv (.slice none 0 0)))(ho:ah [E.t] w w')
  (he:E'.t=E.t/\E'.b=E.b/\E'.q=E.q/\E'.r=E.r/\E'.g=E.g/\E'.T=E.T/\E'.Sd=E.Sd/\E'.P=E.P/\E'.D=E.D/\E'.s=E.s/\E'.txn=E.txn/\E'.c2=E.c2/\E'.c3=E.c3/\E'.c4=E.c4/\E'.ro=E.ro):
  dp E' w' S aa l d ch f dm nn Sf lv:=by
 have hm:=h.nodup;unfold aB at hm;have ht:=(abJ.1 hm).1;have aX:∀b∈E.still,b∉[E.t]:=fun b hb hs=>by
  rw[IN]at hs;subst hs;exact h.apart E.t (by simp[aB]) hb
 have wg:∀b,b∈dm::(lv.ownBlock.toList++((abZ none 0 0).ownBlock.toList++Sf))->b∉[E.t]:=fun b hb hs=>by
  rw[IN]at hs;subst hs;exact ht hb
 obtain⟨a1,a2,a3,a4,a5,a6,a7,a8,a9,a10,a11,a16,a17,a18,a19⟩:=he;have jC:E'.still=E.still:=by unfold Kv.still;rw[a2,a3,a4,a6,a7]
 exact⟨by rw[a1];exact hc,h.free.off ho (fun b hb=>wg b (by simp[hb])),by rw[a11];exact h.map.off ho (wg _ (by simp)),h.nn,ho.own h.loose (fun b hb=>wg b (by simp[hb])),
  by rw[a2,a3,a4,a16,a17,a18];exact ho.bk h.db (aX _ (by simp[Kv.still])),by rw[a4,a10];exact ho.bk h.rd (aX _ (by simp[Kv.still])),by rw[a3,a6,a5,a8];exact h.pg.off ho (fun b hb=>aX b (by simp[Kv.still,hb])),
  by rw[a5,a7,a9];exact h.dev.off ho (fun b hb=>aX b (by simp[Kv.still,hb])),by rw[a19];exact h.row.off ho (aX _ (by simp[Kv.still])),by rw[jC,a1];exact h.blocks,by rw[a1];exact h.nodup,by rw[jC,a1];exact h.apart⟩
theorem dp.xN{E:Kv}{w:AI}{S:List Nat}{aa:Nat}{l:List (Nat×Nat)}{d:ag}{ch:List Nat}{f dm nn:Nat}{Sf:List Nat}{lv:No}(h:dp E w S aa l d ch f dm nn Sf lv):E.t∈S:=by rw[h.blocks];simp[aB]
theorem WL{E:Kv}(hE:E.Ok){w:AI}{S:List Nat}{σ :ag}{k nr:Nat}{Fo:Forest}(h:Wr E False w S σ k Fo nr)(nk:nr<=1000000)(BC:w.ownsRow 0 3 1 E.c3 E.pc.length (ints E.pc))(MN:∀g,E.c3.ownBlock=some g->g∉S)
  {q:Nat} (ry:∀(τ :ag) (G:Forest),G.Ok τ ->G.NS=Fo.NS->Tr.ej τ q G.main.root G.main.P G.main.L) (hk:Fo.NS.length*q+Fr.pieces E.limit<=k):
  aaf prog 13 #[.pointer (some ⟨E.t,0,none⟩)] w (fun e w'=>e= .returned (.tuple #[.bool false,.int .i64 0])/\∃G σ' aa l d ch f dm nn Sf lv S',Laid { E with bO:=1 } False S Fo w w' G σ' aa l d ch f dm nn Sf lv S'):=by
 obtain⟨x0,f0,dm0,lv0,fv0,hc⟩:=h.cells;have HM:=sh (jv hc (by rw[show (aO E x0 f0 dm0 lv0 fv0)[13]? =some (.bool E.over) from rfl,h.open_]));have HL:=sh (OB hE h nk BC MN ry (.inr hk));have rY:w.cell? ⟨E.t,12,none⟩=some (.int .i64 0):=by
  have h1:=hc.cell 12;rw[show (aO E x0 f0 dm0 lv0 fv0)[12]? =some (.int .i64 E.bO) from rfl,h.first]at h1;exact h1
 have lt:=hc.lt;have Kj:=sh fun(W:AI)=>mZ E.t W;have ka:=sh h.first;clear h hc BC MN hk ry;go_enter func13,ntmps13
 go_wp2_with fail
 refine HM.out.mono ?_;rintro e w1 ⟨rfl,rfl⟩;go_wp2_with fail
 refine HL.out.mono ?_;rintro e w2 (⟨rfl,G,σ',aa,l,d,ch,f,dm,nn,Sf,lv,S',hl⟩|⟨hF,-⟩)
 ·have q12:w2.cell? ⟨E.t,12,none⟩=some (.int .i64 0):=by
   have h1:=hl.mem.cells.cell 12;rw[show (aO { E with root:=(G.main.root:Nat),yW:=(ch.headD 0:Nat) } ⟨aa,l,d,ch,[]⟩ f dm lv (.slice none 0 0))[12]? =some (.int .i64 E.bO) from rfl,ka.out]at h1;exact h1
  have f12:w2.frozen? ⟨E.t,12,none⟩=false:=hl.mem.cells.frozen 12;have Ri:E.t<w2.heap.size:=hl.mem.cells.lt;have aT:Bk (w2.setCell ⟨E.t,12,none⟩ (.int .i64 1)) E.t 103 (aO { E with root:=(G.main.root:Nat),yW:=(ch.headD 0:Nat),bO:=1 } ⟨aa,l,d,ch,[]⟩ f dm lv (.slice none 0 0)):=by
   have:=hl.mem.cells.put 12 (.int .i64 1);exact this
  have ho:ah [E.t] w2 (w2.setCell ⟨E.t,12,none⟩ (.int .i64 1)):=(ah.refl [E.t] w2).setCell (p:=⟨E.t,12,none⟩) (.inl (by simp)) _;have wy:E.t∈S':=hl.mem.xN;have HE:=sh (show Laid { E with bO:=1 } False S Fo w (w2.setCell ⟨E.t,12,none⟩ (.int .i64 1)) G σ' aa l d ch f dm nn Sf lv S' from
   ⟨hl.tr,hl.NS,hl.R,hl.ok,dp.other (E':={ E with root:=(G.main.root:Nat),yW:=(ch.headD 0:Nat),bO:=1 }) hl.mem aT ho ⟨rfl,rfl,rfl,rfl,rfl,rfl,rfl,rfl,rfl,rfl,rfl,rfl,rfl,rfl,rfl⟩,hl.off.then ho (fun b hb=>by rw[IN]at hb;subst hb;exact hl.fresh _ wy),hl.fresh,hl.le,hl.perm,hl.sorted,hl.eQ,hl.tree,hl.az,hl.chain,hl.range,hl.stamps,hl.xR,hl.room,hl.r9⟩)
  clear hl aT ho wy;go_wp2_with fail
  refine(Kj.out _).mono ?_;rintro e w4 ⟨rfl,rfl⟩;go_wp2_with fail
  go_ret2
  exact⟨rfl,G,σ',aa,l,d,ch,f,dm,nn,Sf,lv,S',HE.out⟩
 ·exact absurd hF (fun h=>h)
theorem WM{E:Kv}{w:AI}{S:List Nat}{aa:Nat}{l:List (Nat×Nat)}{d:ag}{ch:List Nat}{f dm nn:Nat}{Sf:List Nat}{lv:No}(h:dp E w S aa l d ch f dm nn Sf lv)(hs:E.Sep)(oY:E.over=false)(GN:E.bO=1)(gn:∀n p,d n=some p->cm p.kind n E.txn p.body=true/\(n:Int)<E.P.m.l/\4*n+4<=E.D.sec.length)(aX:E.D.steps<=999990000)(Er:E.P.log.length<=900000)
  {D':DevS} (aa0:kF E.txn d (keysOf d) E.D=(D',0)):
  aaf prog 13 #[.pointer (some ⟨E.t,0,none⟩)] w (fun e w'=>e= .returned (.tuple #[.bool false,.int .i64 0])/\∃(T' cM:List Nat) (P':eK) (S':List Nat) (m:Nat),dp { E.dev T' cM P' D' with bO:=2 } w' S' aa l d ch f dm nn Sf lv/\(E.dev T' cM P' D').Sep/\ah S w w'/\aj w S S'/\
   P'={ E.P with log:=E.P.log++((keysOf d).take m).map (fun(n:Nat)=>(n:Int)) }/\D'.steps<=E.D.steps+2048/\D'.sec.length=E.D.sec.length):=by
 have HM:=sh (jv h.cells (by rw[show (aO E ⟨aa,l,d,ch,[]⟩ f dm lv (.slice none 0 0))[13]? =some (.bool E.over) from rfl,oY]));have HW:=sh (FN h hs oY gn aX Er);have rY:w.cell? ⟨E.t,12,none⟩=some (.int .i64 1):=by
  have h1:=h.cells.cell 12;rw[show (aO E ⟨aa,l,d,ch,[]⟩ f dm lv (.slice none 0 0))[12]? =some (.int .i64 E.bO) from rfl,GN]at h1;exact h1
 have lt:=h.cells.lt;have Kj:=sh fun(W:AI)=>mZ E.t W;have HP:=sh aa0;have YI:=sh GN;clear h hs oY GN gn aX Er aa0;go_enter func13,ntmps13
 go_wp2_with fail
 refine HM.out.mono ?_;rintro e w1 ⟨rfl,rfl⟩;go_wp2_with fail
 refine HW.out.mono ?_;rintro e w2 ⟨r,T',cM,P',D2,S',m,rfl,kW,hl,j5,bB,bU,zU,kd,GB⟩;rw[HP.out]at kW;injection kW with zf ru;subst zf ru;have q12:w2.cell? ⟨E.t,12,none⟩=some (.int .i64 1):=by
  have h1:=hl.cells.cell 12;rw[show (aO (E.dev T' cM P' D') ⟨aa,l,d,ch,[]⟩ f dm lv (.slice none 0 0))[12]? =some (.int .i64 E.bO) from rfl,YI.out]at h1;exact h1
 have f12:w2.frozen? ⟨E.t,12,none⟩=false:=hl.cells.frozen 12;have Ri:E.t<w2.heap.size:=hl.cells.lt;have aT:Bk (w2.setCell ⟨E.t,12,none⟩ (.int .i64 2)) E.t 103 (aO { E.dev T' cM P' D' with bO:=2 } ⟨aa,l,d,ch,[]⟩ f dm lv (.slice none 0 0)):=by
  have:=hl.cells.put 12 (.int .i64 2);exact this
 have ho:ah [E.t] w2 (w2.setCell ⟨E.t,12,none⟩ (.int .i64 2)):=(ah.refl [E.t] w2).setCell (p:=⟨E.t,12,none⟩) (.inl (by simp)) _;have wy:E.t∈S':=hl.xN;have HE:=sh (show _ from (⟨dp.other (E':={ E.dev T' cM P' D' with bO:=2 }) hl aT ho ⟨rfl,rfl,rfl,rfl,rfl,rfl,rfl,rfl,rfl,rfl,rfl,rfl,rfl,rfl,rfl⟩,j5,bB.then ho (fun b hb=>by rw[IN]at hb;subst hb;exact bU _ wy),bU,zU,kd,GB⟩:dp { E.dev T' cM P' D' with bO:=2 } (w2.setCell ⟨E.t,12,none⟩ (.int .i64 2)) S' aa l d ch f dm nn Sf lv/\(E.dev T' cM P' D').Sep/\ah S w (w2.setCell ⟨E.t,12,none⟩ (.int .i64 2))/\aj w S S'/\
   P'={ E.P with log:=E.P.log++((keysOf d).take m).map (fun(n:Nat)=>(n:Int)) }/\D'.steps<=E.D.steps+2048/\D'.sec.length=E.D.sec.length))
 clear hl j5 bB bU zU kd GB aT ho wy;go_wp2_with fail
 refine(Kj.out _).mono ?_;rintro e w4 ⟨rfl,rfl⟩;go_wp2_with fail
 go_ret2
 exact⟨rfl,T',cM,P',S',m,HE.out⟩
theorem JE{w:AI}{q g:Nat}{T S:List Nat}{P:eK}{D D':DevS}{r:Int}(hp:Pg w q T g P)(hd:Dev w g S D)(hb:D.steps<=1000000000)(hw:D.sync=(D',r)):
  aaf prog 52 #[.pointer (some ⟨q,0,none⟩)] w (gv g S D' (.int .i64 r) w):=by
 obtain⟨sl,lg,kW⟩:=hp;have c0:w.cell? ⟨q,0,none⟩=some (ptr g):=kW.cells.cell 0;have lq:=kW.cells.lt;have HS:=sh (nU hd D' r hb hw);clear kW hd hb hw;go_enter func52,ntmps52
 go_wp2_with fail
 refine HS.out.mono ?_;rintro e w1 ⟨rfl,S1,zP,rk,Pc⟩;have HE:=sh (show gv g S D' (.int .i64 r) w (.returned (.int .i64 r)) w1 from ⟨rfl,S1,zP,rk,Pc⟩);clear zP rk Pc;go_wp2_with fail
 go_ret
 exact HE.out
theorem WN{E:Kv}{w:AI}{S:List Nat}{aa:Nat}{l:List (Nat×Nat)}{d:ag}{ch:List Nat}{f dm nn:Nat}{Sf:List Nat}{lv:No}(h:dp E w S aa l d ch f dm nn Sf lv)(hs:E.Sep)(oY:E.over=false)(GN:E.bO=2)(aX:E.D.steps<=1000000000)
  {D':DevS} (hsy:E.D.sync=(D',0)):
  aaf prog 13 #[.pointer (some ⟨E.t,0,none⟩)] w (fun e w'=>e= .returned (.tuple #[.bool false,.int .i64 0])/\∃(cM:List Nat) (S':List Nat),dp { E.dev E.T cM E.P D' with bO:=3 } w' S' aa l d ch f dm nn Sf lv/\(E.dev E.T cM E.P D').Sep/\ah S w w'/\aj w S S'):=by
 have HM:=sh (jv h.cells (by rw[show (aO E ⟨aa,l,d,ch,[]⟩ f dm lv (.slice none 0 0))[13]? =some (.bool E.over) from rfl,oY]));have HW:=sh (JE h.pg h.dev aX hsy);have rY:w.cell? ⟨E.t,12,none⟩=some (.int .i64 2):=by
  have h1:=h.cells.cell 12;rw[show (aO E ⟨aa,l,d,ch,[]⟩ f dm lv (.slice none 0 0))[12]? =some (.int .i64 E.bO) from rfl,GN]at h1;exact h1
 have c0:w.cell? ⟨E.t,0,none⟩=some (.pointer (some ⟨E.b,0,none⟩)):=h.cells.cell 0;have d0:w.cell? ⟨E.b,0,none⟩=some (.pointer (some ⟨E.q,0,none⟩)):=h.db.cell 0;have lt:=h.cells.lt;have lb:=h.db.lt;have Kj:=sh fun(W:AI)=>mZ E.t W;have H:=sh h;have HS:=sh hs;have YI:=sh GN;clear h hs oY GN aX hsy;go_enter func13,ntmps13
 go_wp2_with fail
 refine HM.out.mono ?_;rintro e w1 ⟨rfl,rfl⟩;go_wp2_with fail
 refine HW.out.mono ?_;rintro e w2 ⟨rfl,cM,hd',hod,IY⟩;have hoT:ah (E.Sd++E.T) w w2:=hod.mono (fun b hb=> .inl (by simp[hb]));have Zw:∀b∈E.T,b∉cM:=fun b hb hm=>by
  rcases IY b hm with h9|h9
  ·exact HS.out.ap b hb h9
  ·have:=H.out.pg.old b hb;omega
 obtain⟨S',hl,j5,bB,bU⟩:=H.out.GY HS.out hd' (H.out.pg.off hod HS.out.ap) Zw hoT IY (aj.refl _ _);have q12:w2.cell? ⟨E.t,12,none⟩=some (.int .i64 2):=by
  have h1:=hl.cells.cell 12;rw[show (aO (E.dev E.T cM E.P D') ⟨aa,l,d,ch,[]⟩ f dm lv (.slice none 0 0))[12]? =some (.int .i64 E.bO) from rfl,YI.out]at h1;exact h1
 have f12:w2.frozen? ⟨E.t,12,none⟩=false:=hl.cells.frozen 12;have Ri:E.t<w2.heap.size:=hl.cells.lt;have aT:Bk (w2.setCell ⟨E.t,12,none⟩ (.int .i64 3)) E.t 103 (aO { E.dev E.T cM E.P D' with bO:=3 } ⟨aa,l,d,ch,[]⟩ f dm lv (.slice none 0 0)):=by
  have:=hl.cells.put 12 (.int .i64 3);exact this
 have ho:ah [E.t] w2 (w2.setCell ⟨E.t,12,none⟩ (.int .i64 3)):=(ah.refl [E.t] w2).setCell (p:=⟨E.t,12,none⟩) (.inl (by simp)) _;have wy:E.t∈S':=hl.xN;have HE:=sh (show dp { E.dev E.T cM E.P D' with bO:=3 } (w2.setCell ⟨E.t,12,none⟩ (.int .i64 3)) S' aa l d ch f dm nn Sf lv/\(E.dev E.T cM E.P D').Sep/\ah S w (w2.setCell ⟨E.t,12,none⟩ (.int .i64 3))/\aj w S S' from ⟨dp.other (E':={ E.dev E.T cM E.P D' with bO:=3 }) hl aT ho ⟨rfl,rfl,rfl,rfl,rfl,rfl,rfl,rfl,rfl,rfl,rfl,rfl,rfl,rfl,rfl⟩,j5,bB.then ho (fun b hb=>by rw[IN]at hb;subst hb;exact bU _ wy),bU⟩);clear hl j5 bB bU aT ho wy hd' hod IY hoT Zw;go_wp2_with fail
 refine(Kj.out _).mono ?_;rintro e w4 ⟨rfl,rfl⟩;go_wp2_with fail
 go_ret2
 exact⟨rfl,cM,S',HE.out⟩
def Kv.eF (E:Kv) (aa:Nat):aR:=⟨E.txn,E.root,E.yW,aa,E.limit⟩
theorem WO{E:Kv}{w:AI}{S:List Nat}{aa:Nat}{l:List (Nat×Nat)}{d:ag}{ch:List Nat}{f dm nn:Nat}{Sf:List Nat}{lv:No}(h:dp E w S aa l d ch f dm nn Sf lv)(hs:E.Sep)(oY:E.over=false)(GN:E.bO=3)(aX:E.D.steps<=1000000000)(wo:E.P.bA=none)(hm:(E.eF aa).ok=true)(hl:(E.limit:Int)=E.P.m.l)(ht:(E.txn:Int)=E.P.m.t+1)(Wg:0<=E.P.m.t)
  {D':DevS} (hw:E.D.write ((E.txn:Int)%2) (E.eF aa).bytes=(D',0)):
  aaf prog 13 #[.pointer (some ⟨E.t,0,none⟩)] w (fun e w'=>e= .returned (.tuple #[.bool false,.int .i64 0])/\∃(T' cM S':List Nat),dp { E.dev T' cM { E.P with bA:=some (E.eF aa) } D' with bO:=4 } w' S' aa l d ch f dm nn Sf lv/\(E.dev T' cM { E.P with bA:=some (E.eF aa) } D').Sep/\ah S w w'/\aj w S S'):=by
 have HM:=sh (jv h.cells (by rw[show (aO E ⟨aa,l,d,ch,[]⟩ f dm lv (.slice none 0 0))[13]? =some (.bool E.over) from rfl,oY]));have HW:=sh (show aaf prog 53 #[.pointer (some ⟨E.q,0,none⟩),.agg #[.int .i64 E.txn,.int .i64 E.root,.int .i64 E.yW,.int .i64 aa,.int .i64 E.limit]] w.drew (jy E.g E.q E.Sd E.T D' { E.P with bA:=some (E.eF aa) } 0 w.drew) from by
  have h1:=Oh (h.dev.off ((ah.refl [] w).drew) (by simp)) (h.pg.off ((ah.refl [] w).drew) (by simp)) hs.ap (h.row.off ((ah.refl [] w).drew) (by simp)).1 hs.s.2.2 wo (E.eF aa) hm hl ht Wg aX 0 hw;rw[if_pos rfl]at h1;exact h1)
 have rY:w.cell? ⟨E.t,12,none⟩=some (.int .i64 3):=by
  have h1:=h.cells.cell 12;rw[show (aO E ⟨aa,l,d,ch,[]⟩ f dm lv (.slice none 0 0))[12]? =some (.int .i64 E.bO) from rfl,GN]at h1;exact h1
 have lt:=h.cells.lt;have lb:=h.db.lt;have Kj:=sh fun(W:AI)=>mZ E.t W;have H:=sh h;have HS:=sh hs;have YI:=sh GN;have M4:E.t∉E.Sd++E.T:=fun hm=>h.apart E.t (by simp[aB]) (by
  rcases By.1 hm with hm|hm
  ·simp[Kv.still,hm]
  ·simp[Kv.still,hm])
 have Zz:E.b∉E.Sd++E.T:=fun hm=>by
  rcases By.1 hm with hm|hm
  ·exact hs.s.1 hm
  ·exact hs.t.1 hm
 have bD:=sh (show ∀W,ah (E.Sd++E.T) w W->W.cell? ⟨E.t,0,none⟩=some (.pointer (some ⟨E.b,0,none⟩))/\W.cell? ⟨E.b,0,none⟩=some (.pointer (some ⟨E.q,0,none⟩))/\W.cell? ⟨E.t,2,none⟩=some (.int .i64 E.txn)/\W.cell? ⟨E.t,3,none⟩=some (.int .i64 E.root)/\W.cell? ⟨E.t,4,none⟩=some (.int .i64 E.yW)/\W.cell? ⟨E.t,5,none⟩=some (.int .i64 aa)/\W.cell? ⟨E.t,6,none⟩=some (.int .i64 E.limit) from fun W hW=>
  ⟨(hW.bk h.cells M4).cell 0,(hW.bk h.db Zz).cell 0,(hW.bk h.cells M4).cell 2,(hW.bk h.cells M4).cell 3,(hW.bk h.cells M4).cell 4,(hW.bk h.cells M4).cell 5,(hW.bk h.cells M4).cell 6⟩)
 clear h hs oY GN aX wo hm hl ht Wg hw M4 Zz;go_enter func13,ntmps13
 go_wp2_with fail
 refine HM.out.mono ?_;rintro e w1 ⟨rfl,rfl⟩;go_wp2_with fail
 go_region_held3 (fun W=>W.cell? ⟨E.t,0,none⟩=some (.pointer (some ⟨E.b,0,none⟩))/\W.cell? ⟨E.b,0,none⟩=some (.pointer (some ⟨E.q,0,none⟩))/\W.cell? ⟨E.t,2,none⟩=some (.int .i64 E.txn)/\W.cell? ⟨E.t,3,none⟩=some (.int .i64 E.root)/\W.cell? ⟨E.t,4,none⟩=some (.int .i64 E.yW)/\W.cell? ⟨E.t,5,none⟩=some (.int .i64 aa)/\W.cell? ⟨E.t,6,none⟩=some (.int .i64 E.limit)) (first|exact bD.out _ (ah.refl _ _).drew|exact bD.out _ rf.out)
  (first
  | (go_at_call 53;refine HW.out.mono ?_;intro e w2 oZ;obtain⟨rfl,-⟩:=id oZ;have An:=sh oZ;have rf:=sh (show ah (E.Sd++E.T) w w2 from by obtain⟨-,_,_,-,-,-,q4,-,-⟩:=oZ;exact((ah.refl (E.Sd++E.T) w).drew).trans q4);clear oZ)
  | fail)
 all_goals
  obtain⟨-,cM,T',hd',lV,Mb,-,IY,Vn⟩:=An.out;obtain⟨S',hl,j5,bB,bU⟩:=H.out.GY HS.out hd' lV Mb rf.out (IY.mono (by simp)) (Vn.mono (by simp));have q12:w2.cell? ⟨E.t,12,none⟩=some (.int .i64 3):=by
   have h1:=hl.cells.cell 12;rw[show (aO (E.dev T' cM { E.P with bA:=some (E.eF aa) } D') ⟨aa,l,d,ch,[]⟩ f dm lv (.slice none 0 0))[12]? =some (.int .i64 E.bO) from rfl,YI.out]at h1;exact h1
  have f12:w2.frozen? ⟨E.t,12,none⟩=false:=hl.cells.frozen 12;have Ri:E.t<w2.heap.size:=hl.cells.lt;have aT:Bk (w2.setCell ⟨E.t,12,none⟩ (.int .i64 4)) E.t 103 (aO { E.dev T' cM { E.P with bA:=some (E.eF aa) } D' with bO:=4 } ⟨aa,l,d,ch,[]⟩ f dm lv (.slice none 0 0)):=by
   have:=hl.cells.put 12 (.int .i64 4);exact this
  have ho:ah [E.t] w2 (w2.setCell ⟨E.t,12,none⟩ (.int .i64 4)):=(ah.refl [E.t] w2).setCell (p:=⟨E.t,12,none⟩) (.inl (by simp)) _;have wy:E.t∈S':=hl.xN;have HE:=sh (show dp { E.dev T' cM { E.P with bA:=some (E.eF aa) } D' with bO:=4 } (w2.setCell ⟨E.t,12,none⟩ (.int .i64 4)) S' aa l d ch f dm nn Sf lv/\(E.dev T' cM { E.P with bA:=some (E.eF aa) } D').Sep/\ah S w (w2.setCell ⟨E.t,12,none⟩ (.int .i64 4))/\aj w S S' from ⟨dp.other (E':={ E.dev T' cM { E.P with bA:=some (E.eF aa) } D' with bO:=4 }) hl aT ho ⟨rfl,rfl,rfl,rfl,rfl,rfl,rfl,rfl,rfl,rfl,rfl,rfl,rfl,rfl,rfl⟩,j5,bB.then ho (fun b hb=>by rw[IN]at hb;subst hb;exact bU _ wy),bU⟩);clear hl j5 bB bU aT ho wy hd' lV Mb IY Vn rf;go_wp2_with fail
  refine(Kj.out _).mono ?_;rintro e w4 ⟨rfl,rfl⟩;go_wp2_with fail
  go_ret2
  exact⟨rfl,T',cM,S',HE.out⟩
structure yu (E:Kv) (S:List Nat) (l:List (Nat×Nat)) (ch:List Nat) (f:Nat) (Sf:List Nat) (lv:No) (P':eK) (D':DevS) (w w':AI) (T' cM:List Nat) (ov:Bool):Prop where
 db:fs w' ⟨E.b,E.q,E.r,f,E.g,T',Sf,P',E.s,l,lv,ch,E.c4⟩
 dev:Dev w' E.g cM D'
 row:kJ E.ro w'
 txn:∃cs,Bk w' E.t 103 cs/\cs[13]? =some (.bool ov)
 sep:(E.dev T' cM P' D').Sep
 off:ah S w w'
 fT:aj w E.T T'
 fS:aj w E.Sd cM
theorem JY{E:Kv}{w:AI}{S:List Nat}{aa:Nat}{l:List (Nat×Nat)}{d:ag}{ch:List Nat}{f dm nn:Nat}{Sf:List Nat}{lv:No}(h:dp E w S aa l d ch f dm nn Sf lv)(hs:E.Sep)(aX:E.D.steps<=1000000000){m:aR}(wo:E.P.bA=some m){D':DevS}(hw:E.D.sync=(D',0)):
  aaf prog 54 #[.pointer (some ⟨E.t,0,none⟩)] w (fun e w'=>e= .returned (.int .i64 0)/\∃T' cM,yu E S l ch f Sf lv ⟨m,E.P.m,true,none,E.P.log⟩ D' w w' T' cM E.over):=by
 obtain⟨A,c,VA,-,-⟩:=aV h.loose;subst VA;have HD:=sh (show aaf prog 119 #[.pointer (some ⟨E.q,0,none⟩)] w (jy E.g E.q E.Sd E.T D' ⟨m,E.P.m,true,none,E.P.log⟩ 0 w) from by
  have h1:=LP h.dev h.pg hs.ap m wo aX 0 hw;rw[if_pos rfl]at h1;exact h1)
 have c0:w.cell? ⟨E.t,0,none⟩=some (.pointer (some ⟨E.b,0,none⟩)):=h.cells.cell 0;have d0:w.cell? ⟨E.b,0,none⟩=some (.pointer (some ⟨E.q,0,none⟩)):=h.db.cell 0;have lt:=h.cells.lt;have lb:=h.db.lt;have H:=sh h;have HS:=sh hs;clear h hs aX wo hw;go_enter func54,ntmps54
 go_wp2_with fail
 refine HD.out.mono ?_;rintro e w2 ⟨rfl,cM,T',hd',lV,Mb,ho',IY,Vn⟩;obtain⟨S',hl,j5,bB,bU⟩:=H.out.GY HS.out hd' lV Mb ho' IY Vn;have q0:w2.cell? ⟨E.t,0,none⟩=some (.pointer (some ⟨E.b,0,none⟩)):=hl.cells.cell 0;have q7:w2.cell? ⟨E.t,7,none⟩=some (.pointer (some ⟨f,0,none⟩)):=hl.cells.cell 7;have q9:w2.cell? ⟨E.t,9,none⟩=some (.slice A ch.length c):=hl.cells.cell 9;have b2:w2.cell? ⟨E.b,2,none⟩=some E.c2:=hl.db.cell 2;have b3:w2.cell? ⟨E.b,3,none⟩=some E.c3:=hl.db.cell 3;have fb2:w2.frozen? ⟨E.b,2,none⟩=false:=hl.db.frozen 2;have fb3:w2.frozen? ⟨E.b,3,none⟩=false:=hl.db.frozen 3;have Ri:E.t<w2.heap.size:=hl.cells.lt;have lb2:E.b<w2.heap.size:=hl.db.lt;have hbt:E.b≠E.t:=hl.db.ne hl.cells (by decide);have fw:Bk ((w2.setCell ⟨E.b,2,none⟩ (.pointer (some ⟨f,0,none⟩))).setCell ⟨E.b,3,none⟩ (.slice A ch.length c)) E.b 99 #[.pointer (some ⟨E.q,0,none⟩),.pointer (some ⟨E.r,0,none⟩),.pointer (some ⟨f,0,none⟩),.slice A ch.length c,E.c4]:=(hl.db.put 2 (.pointer (some ⟨f,0,none⟩))).put 3 (.slice A ch.length c);have wj:ah [E.b] w2 ((w2.setCell ⟨E.b,2,none⟩ (.pointer (some ⟨f,0,none⟩))).setCell ⟨E.b,3,none⟩ (.slice A ch.length c)):=((ah.refl [E.b] w2).setCell (p:=⟨E.b,2,none⟩) (.inl (by simp)) _).setCell (p:=⟨E.b,3,none⟩) (.inl (by simp)) _
 have bX:=sh (show ∀W',Bk W' E.b 99 #[.pointer (some ⟨E.q,0,none⟩),.pointer (some ⟨E.r,0,none⟩),.pointer (some ⟨f,0,none⟩),.slice A ch.length c,E.c4]->ah [E.b] w2 W'->yu E S l ch f Sf (.slice A ch.length c) ⟨m,E.P.m,true,none,E.P.log⟩ D' w W' T' cM E.over from fun W' aT wj=>by
  have QU:∀b∈aB E.t f dm Sf (.slice A ch.length c) (.slice none 0 0),b≠E.b:=fun b hb e=>hl.apart b hb (by rw[e];simp[Kv.still,Kv.dev]);have gd:∀b,b∈aB E.t f dm Sf (.slice A ch.length c) (.slice none 0 0)->b∉[E.b]:=fun b hb hm=>by rw[IN]at hm;exact QU b hb hm
  have hrb:E.r∉[E.b]:=fun hm=>by
   rw[IN]at hm;exact(hl.rd.ne hl.db (by decide)) hm
  have hTb:∀b∈T',b∉[E.b]:=fun b hb hm=>by
   rw[IN]at hm;subst hm;exact j5.t.1 hb
  have hSb:∀b∈cM,b∉[E.b]:=fun b hb hm=>by
   rw[IN]at hm;subst hm;exact j5.s.1 hb
  have zO:0∉[E.b]:=fun hm=>by
   rw[IN]at hm;have h1:=hl.row.1 0 (by decide);have h2:w2.cell? ⟨E.b,0,none⟩=some (.pointer (some ⟨E.q,0,none⟩)):=hl.db.cell 0;have e9:(⟨0,0,none⟩:Addr)=⟨E.b,0,none⟩:=congrArg (fun b=>(⟨b,0,none⟩:Addr)) hm;rw[e9,h2]at h1;cases h1
  have hbS:E.b∈S:=by rw[H.out.blocks];simp[Kv.still]
  have dw:∀x,x∈T'++(Sf++(abZ A ch.length c).ownBlock.toList)->x=E.b\/x=E.r->False:=fun x hx he=>by
   rcases By.1 hx with hx|hx
   ·rcases he with rfl|rfl
    ·exact j5.t.1 hx
    ·exact j5.t.2.1 hx
   ·have M8:x∈aB E.t f dm Sf (.slice A ch.length c) (.slice none 0 0):=by
     rcases By.1 hx with hx|hx
     ·simp[aB,hx]
     ·simp only[aB,OF,By]
      exact .inr (.inr (.inl hx))
    exact hl.apart x M8 (by rcases he with rfl|rfl<;>simp[Kv.still,Kv.dev])
  refine⟨⟨aT,hl.pg.off wj hTb,wj.bk hl.rd hrb,(hl.free.off wj (fun b hb=>gd b (by simp[aB,hb]))).fl,wj.own hl.loose (fun b hb=>gd b (by simp only[aB,OF,By,Option.mem_toList];exact .inr (.inr (.inl hb)))),fun hm=>dw _ hm (.inl rfl),fun hm=>dw _ hm (.inr rfl)⟩,hl.dev.off wj hSb,hl.row.off wj zO,⟨_,wj.bk hl.cells (gd _ (by simp[aB,Kv.dev])),rfl⟩,j5,bB.then wj (fun b hb=>by rw[IN]at hb;subst hb;exact .inl hbS),Vn,IY⟩)
 clear hl j5 bB bU hd' lV Mb ho' IY Vn wj;have KN:=sh fw;clear fw;go_wp2_with fail
 go_region
 all_goals
  go_wp2_with fail
  go_region
  all_goals
   go_wp2_with fail
   go_ret
   exact⟨rfl,T',cM,bX.out _ KN.out (((ah.refl [E.b] w2).setCell (p:=⟨E.b,2,none⟩) (.inl (by simp)) _).setCell (p:=⟨E.b,3,none⟩) (.inl (by simp)) _).drew.drew⟩
theorem WQ{E:Kv}{w:AI}{S:List Nat}{aa:Nat}{l:List (Nat×Nat)}{d:ag}{ch:List Nat}{f dm nn:Nat}{Sf:List Nat}{lv:No}(h:dp E w S aa l d ch f dm nn Sf lv)(hs:E.Sep)(oY:E.over=false)(GN:E.bO=4)(aX:E.D.steps<=1000000000){m:aR}(wo:E.P.bA=some m){D':DevS}(hw:E.D.sync=(D',0)):
  aaf prog 13 #[.pointer (some ⟨E.t,0,none⟩)] w (fun e w'=>e= .returned (.tuple #[.bool true,.int .i64 0])/\∃T' cM,yu E S l ch f Sf lv ⟨m,E.P.m,true,none,E.P.log⟩ D' w w' T' cM true):=by
 have HM:=sh (jv h.cells (by rw[show (aO E ⟨aa,l,d,ch,[]⟩ f dm lv (.slice none 0 0))[13]? =some (.bool E.over) from rfl,oY]));have HW:=sh (JY h hs aX wo hw);have rY:w.cell? ⟨E.t,12,none⟩=some (.int .i64 4):=by
  have h1:=h.cells.cell 12;rw[show (aO E ⟨aa,l,d,ch,[]⟩ f dm lv (.slice none 0 0))[12]? =some (.int .i64 E.bO) from rfl,GN]at h1;exact h1
 have lt:=h.cells.lt;have wy:=h.xN;have wh:∀b,b∈E.b::E.r::0::(E.T++E.Sd)->b≠E.t:=fun b hb e=>by
  subst e;refine h.apart E.t (by simp[aB]) ?_;simp only[OF,By]at hb;simp only[Kv.still,OF,By];rcases hb with hb|hb|hb|hb|hb
  ·exact .inl hb
  ·exact .inr (.inr (.inl hb))
  ·exact .inr (.inr (.inr (.inl hb)))
  ·exact .inr (.inr (.inr (.inr (.inl hb))))
  ·exact .inr (.inr (.inr (.inr (.inr hb))))
 have hsf:∀b,b∈Sf++lv.ownBlock.toList->b≠E.t:=fun b hb e=>by
  subst e;have hn:=h.nodup;unfold aB at hn;refine(abJ.1 hn).1 ?_;rcases By.1 hb with hb|hb
  ·simp[hb]
  ·simp only[OF,By]
   exact .inr (.inl hb)
 have Yf:=sh wh;have YH:=sh hsf;have YN:=sh wy;clear h hs oY GN aX wo hw wh hsf wy;go_enter func13,ntmps13
 go_wp2_with fail
 refine HM.out.mono ?_;rintro e w1 ⟨rfl,rfl⟩;go_wp2_with fail
 refine HW.out.mono ?_;rintro e w2 ⟨rfl,T',cM,hd⟩;obtain⟨cs,k1,k2⟩:=hd.txn;have q13:=(k1.cell 13).trans k2;have f13:=k1.frozen 13;have Ri:=k1.lt;have bB:ah [E.t] w2 (w2.setCell ⟨E.t,13,none⟩ (.bool true)):=(ah.refl [E.t] w2).setCell (p:=⟨E.t,13,none⟩) (.inl (by simp)) _;have hTt:∀b∈T',b∉[E.t]:=fun b hb hm=>by
  rw[IN]at hm;rcases hd.fT b hb with h9|h9
  ·exact Yf.out b (by simp[h9]) hm
  ·omega
 have hSt:∀b∈cM,b∉[E.t]:=fun b hb hm=>by
  rw[IN]at hm;rcases hd.fS b hb with h9|h9
  ·exact Yf.out b (by simp[h9]) hm
  ·omega
 have HE:=sh (show yu E S l ch f Sf lv ⟨m,E.P.m,true,none,E.P.log⟩ D' w (w2.setCell ⟨E.t,13,none⟩ (.bool true)) T' cM true from
  ⟨hd.db.off bB (fun b hb=>by
   simp only[Di.blocks,OF,By]at hb;rcases hb with rfl|rfl|hb|hb|hb
   ·intro hm;rw[IN]at hm;exact Yf.out E.b (by simp) hm
   ·intro hm;rw[IN]at hm;exact Yf.out E.r (by simp) hm
   ·exact hTt b hb
   ·intro hm;rw[IN]at hm;exact YH.out b (by simp[hb]) hm
   ·intro hm;rw[IN]at hm;exact YH.out b (By.2 (.inr hb)) hm),hd.dev.off bB hSt,hd.row.off bB (fun hm=>by rw[IN]at hm;exact Yf.out _ (by simp) hm),⟨_,k1.put 13 (.bool true),by
   rw[Array.getElem?_setIfInBounds_self];have:13<cs.size:=by
    by_cases hc:13<cs.size
    ·exact hc
    ·rw[Array.getElem?_eq_none (Nat.le_of_not_lt hc)]at k2;cases k2
   simp[this]⟩,hd.sep,hd.off.then bB (fun b hb=>by rw[IN]at hb;subst hb;exact .inl YN.out),hd.fT,hd.fS⟩)
 clear hd bB hTt hSt k1 k2;go_wp2_with fail
 go_ret2
 exact⟨rfl,T',cM,HE.out⟩
end Go.Proofs.YtjbcbnemdhbhbaaGreatDoor
