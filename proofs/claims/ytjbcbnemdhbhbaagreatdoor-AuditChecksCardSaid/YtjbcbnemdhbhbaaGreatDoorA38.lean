import Derived.Test.YtjbcbnemdhbhbaaGreatDoorA36
import Derived.Test.YtjbcbnemdhbhbaaGreatDoorA37
import Derived.Test.YtjbcbnemdhbhbaaGreatDoorA27
set_option maxRecDepth 100000
set_option linter.unusedVariables false
set_option linter.unusedSimpArgs false
set_option maxHeartbeats 40000000
open Go renaming Value→No,World→AI
open Go.Instr renaming lookup→acR
open Go.Lib renaming hid→sh
open Go.Value renaming slice→abZ
open Go.World.ownsRow renaming lt→abq
open List renaming length_map→IS,mem_append→By,mem_cons→OF,range→afG
open List.Pairwise renaming sublist→afl
open Nat renaming not_le_of_lt→afM
open Option renaming mem_toList→abG
namespace Go.Proofs.YtjbcbnemdhbhbaaGreatDoor
open Go.Proofs.Tryz
open Go.RowKit
def keysOf (d:ag):List Nat:=(afG 512).filter fun n=>(d n).isSome
theorem iG{d:ag}(hd:∀n,d n≠none->n<512)(n:Nat):n∈keysOf d↔d n≠none:=by
 unfold keysOf;rw[List.mem_filter,List.mem_range];constructor
 ·rintro⟨-,h⟩ e
  rw[e]at h;cases h
 ·intro h
  refine⟨hd n h,?_⟩;cases hn:d n with
  | none=>exact absurd hn h
  | some p=>rfl
theorem uH(d:ag):(keysOf d).length<=512:=by
 unfold keysOf;have:=List.length_filter_le (fun n=>(d n).isSome) (afG 512);rw[List.length_range]at this;exact this
theorem rC(d:ag):(keysOf d).Pairwise (· < ·):=afl List.filter_sublist List.pairwise_lt_range
theorem aby(txn:Nat){d:ag}(hd:∀n,d n≠none->n<512)(x:Int):x∈(keysOf d).map (fun(n:Nat)=>(n:Int))↔(dK txn d x).isSome=true:=by
 rw[List.mem_map];constructor
 ·rintro⟨n,hn,rfl⟩
  rw[jQ];have:=(iG hd n).1 hn;cases kx:d n with
  | none=>exact absurd kx this
  | some p=>rfl
 ·intro hx
  unfold dK at hx;by_cases h0:0<=x
  ·rw[if_pos h0]at hx
   refine⟨x.toNat,(iG hd _).2 (fun e=>by rw[e]at hx;cases hx),by omega⟩
  ·rw[if_neg h0]at hx;cases hx
theorem FG{w:AI}{t dm nn txn:Nat}{cs:Array No}{d:ag}(hc:Bk w t 103 cs)(kT:cs[13]? =some (.bool false))(h8:cs[8]? =some (.map (some dm)))(hm:IMap prog 3 w dm nn (dK txn d))(hn:nn<=600)(hd:∀n,d n≠none->n<512):
  Calls prog 24 #[.pointer (some ⟨t,0,none⟩)] w (fun e w'=>Below w.heap.size w w'/\∃v,e= .returned v/\w'.ownsRow w.heap.size 3 1 v (keysOf d).length (ints (keysOf d))):=by
 have HM:=sh (jv hc kT);have OV:=sh fun(W:AI)=>UK dm W;have wX:=sh (LR hm (by omega) ((keysOf d).map (fun(n:Nat)=>(n:Int))) (by rw[List.pairwise_map];exact(rC d).imp (fun h=>by omega)) (aby txn hd));have c8:=(hc.cell 8).trans h8;have lt:=hc.lt;clear hc kT h8 hm hd;go_enter func24,ntmps24
 go_wp2_with fail
 refine HM.out.mono ?_;rintro e w1 ⟨rfl,rfl⟩;go_wp2_with fail
 refine(OV.out _).mono ?_;rintro e w1 ⟨rfl,rfl⟩;go_wp2_with fail
 refine wX.out.mono ?_;rintro e w2 ⟨v,rfl,aq,hb⟩;have HB:=sh (((Below.refl _ w).alloc (Nat.le_refl _) (.cells #[.map (some dm)] 100)).trans (hb.mono (by simp)));have HO:=sh (show w2.ownsRow w.heap.size 3 1 v (keysOf d).length (ints (keysOf d)) from by
  have h1:=me aq (show w.heap.size<=w.heap.size+1 by omega);rw[IS,List.map_map]at h1;exact h1)
 clear hb aq;go_wp2_with fail
 go_ret
 exact⟨HB.out,v,rfl,HO.out⟩
structure Kv.Sep (E:Kv):Prop where
 t:E.b∉E.T/\E.r∉E.T/\0∉E.T
 s:E.b∉E.Sd/\E.r∉E.Sd/\0∉E.Sd
 ap:∀b∈E.T,b∉E.Sd
def Kv.dev (E:Kv) (T Sd:List Nat) (P:eK) (D:DevS):Kv:={ E with T:=T,Sd:=Sd,P:=P,D:=D }
theorem dp.GY{E:Kv}{w w':AI}{S:List Nat}{aa:Nat}{l:List (Nat×Nat)}{d:ag}{ch:List Nat}{f dm nn:Nat}{Sf:List Nat}{lv:No}(h:dp E w S aa l d ch f dm nn Sf lv)(hs:E.Sep){T' cM:List Nat}{P':eK}{D':DevS}
  (hd:Dev w' E.g cM D') (hp:Pg w' E.q T' E.g P') (jU:∀b∈T',b∉cM) (ho:ah (E.Sd++E.T) w w') (SN:aj w E.Sd cM) (ZW:aj w E.T T'):
  ∃S',dp (E.dev T' cM P' D') w' S' aa l d ch f dm nn Sf lv/\(E.dev T' cM P' D').Sep/\ah S w w'/\aj w S S':=by
 have dw:∀b∈E.Sd++E.T,b∈E.still:=fun b hb=>by
  rcases By.1 hb with hb|hb
  ·simp[Kv.still,hb]
  ·simp[Kv.still,hb]
 have wg:∀b∈aB E.t f dm Sf lv (.slice none 0 0),b∉E.Sd++E.T:=fun b hb hs=>h.apart b hb (dw b hs);have hold:∀b∈aB E.t f dm Sf lv (.slice none 0 0),b<w.heap.size:=fun b hb=>by
  simp only[aB,OF,By,abG]at hb;rcases hb with rfl|rfl|hb|hb|hb
  ·exact h.cells.lt
  ·exact h.map.lt
  ·exact(abq h.loose b hb).2
  ·rw[show (abZ none 0 0).ownBlock=none from rfl]at hb;cases hb
  ·exact h.free.old b hb
 have hb:E.b∉E.Sd++E.T:=fun hm=>by
  rcases By.1 hm with hm|hm
  ·exact hs.s.1 hm
  ·exact hs.t.1 hm
 have hr:E.r∉E.Sd++E.T:=fun hm=>by
  rcases By.1 hm with hm|hm
  ·exact hs.s.2.1 hm
  ·exact hs.t.2.1 hm
 have qY:0∉E.Sd++E.T:=fun hm=>by
  rcases By.1 hm with hm|hm
  ·exact hs.s.2.2 hm
  ·exact hs.t.2.2 hm
 refine⟨aB E.t f dm Sf lv (.slice none 0 0)++(E.dev T' cM P' D').still,⟨ho.bk h.cells (wg E.t (by simp[aB])),h.free.off ho (fun b hb=>wg b (by simp[aB,hb])),h.map.off ho (wg _ (by simp[aB])),h.nn,ho.own h.loose (fun b hb=>wg b (by simp[aB,hb])),ho.bk h.db hb,ho.bk h.rd hr,hp,hd,h.row.off ho qY,rfl,h.nodup,fun b vY aX=> ?_⟩,⟨⟨fun hm=> ?_,fun hm=> ?_,fun hm=> ?_⟩,⟨fun hm=> ?_,fun hm=> ?_,fun hm=> ?_⟩,jU⟩,ho.mono (fun b hb=> .inl (by rw[h.blocks];exact By.2 (.inr (dw b hb)))),fun b vY=> ?_⟩
 ·have hq:E.q∈E.still:=by simp[Kv.still]
  simp only[Kv.still,Kv.dev,OF,By]at aX;rcases aX with rfl|rfl|rfl|rfl|aX|aX
  ·exact h.apart _ vY (by simp[Kv.still])
  ·exact h.apart _ vY (by simp[Kv.still])
  ·exact h.apart _ vY (by simp[Kv.still])
  ·exact h.apart _ vY (by simp[Kv.still])
  ·rcases ZW b aX with h9|h9
   ·exact h.apart _ vY (dw b (by simp[h9]))
   ·have:=hold b vY;omega
  ·rcases SN b aX with h9|h9
   ·exact h.apart _ vY (dw b (by simp[h9]))
   ·have:=hold b vY;omega
 ·rcases ZW _ hm with h9|h9
  ·exact hs.t.1 h9
  ·exact absurd h9 (afM h.db.lt)
 ·rcases ZW _ hm with h9|h9
  ·exact hs.t.2.1 h9
  ·exact absurd h9 (afM h.rd.lt)
 ·rcases ZW _ hm with h9|h9
  ·exact hs.t.2.2 h9
  ·exact absurd h9 (afM h.row.lt)
 ·rcases SN _ hm with h9|h9
  ·exact hs.s.1 h9
  ·exact absurd h9 (afM h.db.lt)
 ·rcases SN _ hm with h9|h9
  ·exact hs.s.2.1 h9
  ·exact absurd h9 (afM h.rd.lt)
 ·rcases SN _ hm with h9|h9
  ·exact hs.s.2.2 h9
  ·exact absurd h9 (afM h.row.lt)
 ·rw[h.blocks]
  rcases By.1 vY with vY|vY
  ·exact .inl (By.2 (.inl vY))
  ·simp only[Kv.still,Kv.dev,OF,By]at vY
   rcases vY with rfl|rfl|rfl|rfl|vY|vY
   ·exact .inl (by simp[Kv.still])
   ·exact .inl (by simp[Kv.still])
   ·exact .inl (by simp[Kv.still])
   ·exact .inl (by simp[Kv.still])
   ·rcases ZW b vY with h9|h9
    ·exact .inl (By.2 (.inr (dw b (by simp[h9]))))
    ·exact .inr h9
   ·rcases SN b vY with h9|h9
    ·exact .inl (By.2 (.inr (dw b (by simp[h9]))))
    ·exact .inr h9
def kF (t:Int) (d:ag):List Nat->DevS->DevS×Int
 | [],D=>(D,0)
 | n::ns,D=>match d n with
  | none=>kF t d ns D
  | some p=>if (D.writeL (4*n) (aJ (bL p.kind n t p.body))).2=0 then kF t d ns (D.writeL (4*n) (aJ (bL p.kind n t p.body))).1 else ((D.writeL (4*n) (aJ (bL p.kind n t p.body))).1,(D.writeL (4*n) (aJ (bL p.kind n t p.body))).2)
structure Wrt (E:Kv) (w:AI) (S:List Nat) (aa:Nat) (l:List (Nat×Nat)) (d:ag) (ch:List Nat) (f dm nn:Nat) (Sf:List Nat) (lv:No) (ks:List Nat) (j:Nat) (wr:AI) (T' cM:List Nat) (P':eK) (D':DevS) (S':List Nat):Prop where
 mem:dp (E.dev T' cM P' D') wr S' aa l d ch f dm nn Sf lv
 sep:(E.dev T' cM P' D').Sep
 off:ah S w wr
 fresh:aj w S S'
 go:kF E.txn d ks E.D=kF E.txn d (ks.drop j) D'
 log:P'={ E.P with log:=E.P.log++(ks.take j).map (fun(n:Nat)=>(n:Int)) }
 steps:D'.steps<=E.D.steps+4*j
 len:D'.sec.length=E.D.sec.length
def nO (E:Kv) (S:List Nat) (aa:Nat) (l:List (Nat×Nat)) (d:ag) (ch:List Nat) (f dm nn:Nat) (Sf:List Nat) (lv:No) (w:AI) (e:Ending) (w':AI):Prop:=
 ∃(r:Int) (T' cM:List Nat) (P':eK) (D':DevS) (S':List Nat) (m:Nat),e= .returned (.int .i64 r)/\kF E.txn d (keysOf d) E.D=(D',r)/\dp (E.dev T' cM P' D') w' S' aa l d ch f dm nn Sf lv/\(E.dev T' cM P' D').Sep/\ah S w w'/\aj w S S'/\
  P'={ E.P with log:=E.P.log++((keysOf d).take m).map (fun(n:Nat)=>(n:Int)) }/\D'.steps<=E.D.steps+2048/\D'.sec.length=E.D.sec.length
theorem FN{E:Kv}{w:AI}{S:List Nat}{aa:Nat}{l:List (Nat×Nat)}{d:ag}{ch:List Nat}{f dm nn:Nat}{Sf:List Nat}{lv:No}(h:dp E w S aa l d ch f dm nn Sf lv)(hs:E.Sep)(oY:E.over=false)(gn:∀n p,d n=some p->cm p.kind n E.txn p.body=true/\(n:Int)<E.P.m.l/\4*n+4<=E.D.sec.length)(aX:E.D.steps<=999990000)(Er:E.P.log.length<=900000):
  Calls prog 51 #[.pointer (some ⟨E.t,0,none⟩)] w (nO E S aa l d ch f dm nn Sf lv w):=by
 have xH:∀n,d n≠none->n<512:=fun n hn=>by
  cases kx:d n with
  | none=>exact absurd kx hn
  | some p=>have:=(eY (gn n p kx).1).2.2.2.1;omega
 have HDT:=sh (FG (txn:=E.txn) h.cells (by rw[show (aO E ⟨aa,l,d,ch,[]⟩ f dm lv (.slice none 0 0))[13]? =some (.bool E.over) from rfl,oY]) rfl h.map h.nn xH);have H:=sh h;have HS:=sh hs;have T1:=sh gn;have ka:=sh aX;have HLG:=sh Er;have HD5:=sh xH;have lt:=h.cells.lt;obtain⟨t,ht⟩:∃t,t=E.t:=⟨_,rfl⟩;have HT:=sh ht;rw[<-ht]at HDT lt |-;obtain⟨ks,ia⟩:∃ks,ks=keysOf d:=⟨_,rfl⟩;have bD:=sh ia;rw[<-ia]at HDT;have iV:ks.length<=512:=by rw[ia];exact uH d
 clear h hs oY gn aX Er xH ht ia;go_enter func51,ntmps51
 go_wp2_with fail
 refine HDT.out.mono ?_;rintro e w1 ⟨ar,v,rfl,aq⟩;obtain⟨A,c,rfl,GF,cI,-,fJ,fV⟩:=bg aq;have bh:=sh ar;have vO:=sh fJ;have FY:=sh (show ∀a,A=some a->w.heap.size<=a.block/\a.block<w1.heap.size from fun a ha=>⟨(fV a ha).1,(abq aq _ (fV a ha).2).2⟩);have si:c<=9223372036854775807:=by unfold maxLen at cI;omega
 have h0:Hid (∃T' cM P' D' S',Wrt E w1 S aa l d ch f dm nn Sf lv ks 0 w1 T' cM P' D' S'):=⟨E.T,E.Sd,E.P,E.D,S,by
  have hm:=H.out;refine⟨⟨ae hm.cells ar,hm.free.below ar,hm.map.off (ah.af ar []) (by simp),hm.nn,(ah.af ar []).own hm.loose (by simp),ae hm.db ar,ae hm.rd ar,hm.pg.below ar,hm.dev.below ar,hm.row.below ar,hm.blocks,hm.nodup,hm.apart⟩,HS.out,ah.refl _ _,aj.refl _ _,rfl,by simp,by simp,rfl⟩⟩
 clear aq fJ fV ar cI;go_wp2_with fail
 go_loopw [9] (fun i wr=>∃j:Nat,i= .int .i64 j/\j<=ks.length/\Hid (∃T' cM P' D' S',Wrt E w1 S aa l d ch f dm nn Sf lv ks j wr T' cM P' D' S')) (fun i _=>ks.length-(intOf i).toNat)
 case atStart=>exact⟨0,rfl,Nat.zero_le _,h0⟩
 case round=>
  obtain⟨j,rfl,hj,hI⟩:=hrel;obtain⟨T',cM,P',D',S',hT⟩:=hI.out;by_cases aH:j<ks.length
  ·have z1:decide ((j:Int)<(ks.length:Int))=true:=decide_eq_true (by omega)
   obtain⟨n,hn⟩:∃n,n=ks[j]:=⟨_,rfl⟩;have VJ:n∈ks:=by rw[hn];exact List.getElem_mem aH
   obtain⟨p,hp⟩:∃p,d n=some p:=by
    have:=(iG HD5.out n).1 (by rw[<-bD.out];exact VJ);cases kx:d n with
    | none=>exact absurd kx this
    | some p=>exact⟨p,rfl⟩
   obtain⟨f1,f2,f3⟩:=T1.out n p hp;have ur:=HD5.out n (by rw[hp];simp);obtain⟨b,o,rfl,hb,gb⟩:=ints_at (vO.out.off hT.off (fun a ha hs=>by
    have h1:=(FY.out a ha).1;have h2:a.block<w.heap.size:=by
     rw[H.out.blocks]at hs;rcases By.1 hs with hs|hs
     ·simp only[aB,OF,By,abG]at hs
      rcases hs with hs|hs|hs|hs|hs
      ·rw[hs];exact H.out.cells.lt
      ·rw[hs];exact H.out.map.lt
      ·exact(abq H.out.loose _ hs).2
      ·rw[show (abZ none 0 0).ownBlock=none from rfl]at hs;cases hs
      ·exact H.out.free.old _ hs
     ·simp only[Kv.still,OF,By]at hs
      rcases hs with hs|hs|hs|hs|hs|hs
      ·rw[hs];exact H.out.db.lt
      ·rw[hs];obtain⟨_,_,hp⟩:=H.out.pg;exact hp.cells.lt
      ·rw[hs];exact H.out.rd.lt
      ·rw[hs];exact H.out.row.lt
      ·exact H.out.pg.old _ hs
      ·exact H.out.dev.old _ hs
    omega)) j aH
   rw[<-hn]at gb;have BM:∀x∈cM++T',x∈(E.dev T' cM P' D').still:=fun x hx=>by
    rcases By.1 hx with hx|hx
    ·simp[Kv.still,Kv.dev,hx]
    ·simp[Kv.still,Kv.dev,hx]
   have M4:E.t∉cM++T':=fun hm=>hT.mem.apart E.t (by simp[aB,Kv.dev]) (BM _ hm);have hdN:dm∉cM++T':=fun hm=>hT.mem.apart dm (by simp[aB]) (BM _ hm);have Zz:E.b∉cM++T':=fun hm=>by
    rcases By.1 hm with hm|hm
    ·exact hT.sep.s.1 hm
    ·exact hT.sep.t.1 hm
   have Pm:∀W,ah (cM++T') wr W->W.cell? ⟨t,0,none⟩=some (.pointer (some ⟨E.b,0,none⟩))/\W.cell? ⟨E.b,0,none⟩=some (.pointer (some ⟨E.q,0,none⟩))/\W.cell? ⟨t,8,none⟩=some (.map (some dm))/\(acR 100 (.map (some dm)) (.int .i64 n) false).run prog W= .ok (.agg #[.int .i64 p.kind,.int .i64 n,.int .i64 E.txn,.string p.body]) W:=fun W hW=>by
    rw[HT.out];refine⟨(hW.bk hT.mem.cells M4).cell 0,(hW.bk hT.mem.db Zz).cell 0,(hW.bk hT.mem.cells M4).cell 8,?_⟩;have h1:=(hT.mem.map.off hW hdN).look underlying3 underlying100 (z:= .agg #[.int .i64 0,.int .i64 0,.int .i64 0,.string ⟨#[]⟩]) (by kernel_rfl) (i:=(n:Int)) (C0 (by omega) (by omega));rw[h1,jQ,hp];rfl
   have ltr:t<wr.heap.size:=by rw[HT.out];exact hT.mem.cells.lt
   have lbr:E.b<wr.heap.size:=hT.mem.db.lt;have zU:P'.log.length<=1000000:=by
    rw[hT.log];have h1:=HLG.out;simp only[List.length_append,IS,List.length_take];omega
   have Xw:P'.m=E.P.m:=by rw[hT.log]
   have DA:=sh fun(W:AI) (hW:ah [] wr W)=>Fk (hT.mem.dev.off hW (by simp)) (hT.mem.pg.off hW (by simp)) hT.sep.ap (hT.mem.row.off hW (by simp)).1 p.kind E.txn n p.body f1 ur (by show (n:Int)<P'.m.l;rw[Xw];exact f2) (by show 4*n+4<=D'.sec.length;rw[hT.len];exact f3) (by have h1:=hT.steps;have h2:=ka.out;show D'.steps<=_;omega) zU;obtain⟨D2,r,hw⟩:∃D2 r,D'.writeL (4*n) (aJ (bL p.kind n E.txn p.body))=(D2,r):=⟨_,_,rfl⟩;have YS:=sh (show ∀W,ah [] wr W->Calls prog 115 #[.pointer (some ⟨E.q,0,none⟩),.agg #[.int .i64 p.kind,.int .i64 n,.int .i64 E.txn,.string p.body]] W (jy E.g E.q cM T' D2 (P'.et n) r W) from fun W hW=>by
    have h1:=DA.out W hW;have e1:(E.dev T' cM P' D').D=D':=rfl;rw[e1,hw]at h1;exact h1)
   have Bl:ks.drop j=n::ks.drop (j+1):=by rw[hn];exact List.drop_eq_getElem_cons aH
   have cW:ks.take (j+1)=ks.take j++[n]:=by rw[hn];exact List.take_succ_eq_append_getElem aH
   have EE:bL p.kind n E.txn p.body=bL p.kind n E.txn p.body:=rfl;have abg:∀x∈aJ (bL p.kind n E.txn p.body),x.size=128:=fun x hx=>by
    obtain⟨i9,h9,rfl⟩:=List.mem_iff_getElem.1 hx;refine gC (s:=bL p.kind n E.txn p.body) ?_ (List.getElem?_eq_getElem h9);rw[jq f1];show (gZ _ _ _ _).toArray.size=512;rw[List.size_toArray];refine mR _ _ _ _ ?_;have:=(eY f1).2.2.2.2.2.2;show p.body.data.toList.length<=488;rw[Array.length_toList];exact this
   obtain⟨v1,v2,v3⟩:=DevS.kI (aJ (bL p.kind n E.txn p.body)) D' (4*n) (by show 4*n+4<=_;rw[hT.len];exact f3) abg;rw[hw]at v1 v2 v3;have I1:kF E.txn d ks E.D=if r=0 then kF E.txn d (ks.drop (j+1)) D2 else (D2,r):=by
    rw[hT.go,Bl];show (match d n with|none=>_|some p=>_)=_;rw[hp];simp only[hw]
   have nA:=sh (show ∀(w':AI) (hW:∃W,ah [] wr W/\wr.heap.size<=W.heap.size/\jy E.g E.q cM T' D2 (P'.et n) r W (.returned (.int .i64 r)) w'),(r=0->∃T' cM P' D' S',Wrt E w1 S aa l d ch f dm nn Sf lv ks (j+1) w' T' cM P' D' S')/\(r≠0->nO E S aa l d ch f dm nn Sf lv w (.returned (.int .i64 r)) w') from fun w' hex=>by
    obtain⟨W,hW,cZ,-,S2,T2,q1,q2,q3,q4,q5,q6⟩:=hex;obtain⟨S3,m1,m2,m3,m4⟩:=hT.mem.GY hT.sep q1 q2 q3 (hW.mono (by simp) |>.trans q4) (q5.mono cZ) (q6.mono cZ);have S9:P'.et n={ E.P with log:=E.P.log++(ks.take (j+1)).map (fun(n:Nat)=>(n:Int)) }:=by
     unfold eK.et;rw[hT.log,cW];simp
    have abc:D2.steps<=E.D.steps+4*(j+1:Nat):=by
     have h1:=hT.steps;have h2:(aJ (bL p.kind n E.txn p.body)).length=4:=rfl;rw[h2]at v2
     push_cast at v2 |-
     omega
    have bB:ah S w1 w':=hT.off.then m3 hT.fresh;have bU:aj w1 S S3:=hT.fresh.trans m4 hT.off.size;refine⟨fun h0=>⟨T2,S2,P'.et n,D2,S3,m1,m2,bB,bU,?_,S9,abc,by rw[v1.sec];exact hT.len⟩,fun h0=>⟨r,T2,S2,P'.et n,D2,S3,j+1,rfl,?_,m1,m2,(ah.af bh.out S).trans bB,bU.mono bh.out.size,?_,?_,by rw[v1.sec];exact hT.len⟩⟩
    ·rw[I1,if_pos h0]
    ·rw[<-bD.out,I1,if_neg h0]
    ·rw[<-bD.out];exact S9
    ·have:(j:Int)+1<=512:=by omega
     push_cast at abc
     omega)
   have T7:=sh Pm;have iT:r=0\/((r==0)=false/\(r != 0)=true/\r≠0):=by
    by_cases h9:r=0
    ·exact .inl h9
    ·exact .inr ⟨by rw[beq_eq_false_iff_ne];exact h9,by simpa using h9,h9⟩
   clear hT hI h0 Pm hn VJ hp f1 f2 f3 hw Bl cW EE abg v1 v2 v3 I1 zU Xw DA BM M4 hdN Zz;rcases iT with rfl|⟨e1,e2,e3⟩
   ·go_wp2_with fail
    go_region_held3 (fun W=>W.cell? ⟨t,0,none⟩=some (.pointer (some ⟨E.b,0,none⟩))/\W.cell? ⟨E.b,0,none⟩=some (.pointer (some ⟨E.q,0,none⟩))/\W.cell? ⟨t,8,none⟩=some (.map (some dm))/\(acR 100 (.map (some dm)) (.int .i64 n) false).run prog W= .ok (.agg #[.int .i64 p.kind,.int .i64 n,.int .i64 E.txn,.string p.body]) W) (first|exact T7.out _ (ah.refl _ _).drew|exact T7.out _ rf.out)
     (first
     | (go_at_call 115;refine(YS.out _ (ah.refl _ _).drew).mono ?_;intro e w5 oZ;obtain⟨rfl,-⟩:=id oZ;have An:=sh oZ;have rf:=sh (show ah (cM++T') wr w5 from by obtain⟨-,_,_,-,-,-,q4,-,-⟩:=oZ;exact((ah.refl (cM++T') wr).drew).trans q4);clear oZ)
     | fail)
    all_goals
     obtain⟨T3,Sd3,P3,D3,S3,hW3⟩:=(nA.out w5 ⟨_,(ah.refl [] wr).drew,by simp,An.out⟩).1 (by first|exact trivial|rfl);have vP:=sh (show ∃T' cM P' D' S',Wrt E w1 S aa l d ch f dm nn Sf lv ks (j+1) w5 T' cM P' D' S' from ⟨T3,Sd3,P3,D3,S3,hW3⟩);clear hW3 rf;go_wp2_with fail
     go_roundw
     case rel=>first|exact⟨j+1,by go_num,by omega,vP⟩|((repeat apply Exists.intro);exact⟨⟨j+1,by go_num,by omega,vP⟩,rfl⟩)
     case measure=>simp[intOf];omega
   ·go_wp2_with fail
    go_region_held3 (fun W=>W.cell? ⟨t,0,none⟩=some (.pointer (some ⟨E.b,0,none⟩))/\W.cell? ⟨E.b,0,none⟩=some (.pointer (some ⟨E.q,0,none⟩))/\W.cell? ⟨t,8,none⟩=some (.map (some dm))/\(acR 100 (.map (some dm)) (.int .i64 n) false).run prog W= .ok (.agg #[.int .i64 p.kind,.int .i64 n,.int .i64 E.txn,.string p.body]) W) (first|exact T7.out _ (ah.refl _ _).drew|exact T7.out _ rf.out)
     (first
     | (go_at_call 115;refine(YS.out _ (ah.refl _ _).drew).mono ?_;intro e w5 oZ;obtain⟨rfl,-⟩:=id oZ;have An:=sh oZ;have rf:=sh (show ah (cM++T') wr w5 from by obtain⟨-,_,_,-,-,-,q4,-,-⟩:=oZ;exact((ah.refl (cM++T') wr).drew).trans q4);clear oZ)
     | fail)
    all_goals
     have vP:=sh ((nA.out w5 ⟨_,(ah.refl [] wr).drew,by simp,An.out⟩).2 e3);clear rf e3;go_wp2_with fail
     go_ret
     exact vP.out
  ·have z1:decide ((j:Int)<(ks.length:Int))=false:=decide_eq_false (by omega)
   have sX:j=ks.length:=by omega
   have HE:=sh (show nO E S aa l d ch f dm nn Sf lv w (.returned (.int .i64 0)) wr from ⟨0,T',cM,P',D',S',ks.length,rfl,by
    have:=hT.go;rw[sX,List.drop_length]at this;rw[<-bD.out];exact this,hT.mem,hT.sep,(ah.af bh.out S).trans hT.off,hT.fresh.mono bh.out.size,by
    have:=hT.log;rw[sX]at this;rw[<-bD.out];exact this,by have:=hT.steps;omega,hT.len⟩)
   clear hT hI h0;go_wp2_with fail
   go_ret
   exact HE.out
end Go.Proofs.YtjbcbnemdhbhbaaGreatDoor
