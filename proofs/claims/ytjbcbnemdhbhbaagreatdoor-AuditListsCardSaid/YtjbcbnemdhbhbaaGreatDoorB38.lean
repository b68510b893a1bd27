import Derived.Test.YtjbcbnemdhbhbaaGreatDoorB36
import Derived.Test.YtjbcbnemdhbhbaaGreatDoorB37
import Derived.Test.YtjbcbnemdhbhbaaGreatDoorB27
set_option maxRecDepth 100000
set_option linter.unusedVariables false
set_option linter.unusedSimpArgs false
set_option maxHeartbeats 40000000
open Go renaming Value→IS,World→AI
open Go.Instr renaming lookup→acW
open Go.Lib renaming hid→sh
open Go.Value renaming slice→acf
open Go.World.ownsRow renaming lt→abr
open List renaming length_map→aae,mem_append→AT,mem_cons→IT,range→afv
open List.Pairwise renaming sublist→afh
open Nat renaming not_le_of_lt→afI
open Option renaming mem_toList→abz
namespace Go.Proofs.YtjbcbnemdhbhbaaGreatDoor
open Go.Proofs.Tryz
open Go.RowKit
def keysOf (d:ag):List Nat:=(afv 512).filter fun n=>(d n).isSome
theorem iC{d:ag}(hd:∀n,d n≠none->n<512)(n:Nat):n∈keysOf d↔d n≠none:=by
 unfold keysOf;rw[List.mem_filter,List.mem_range];constructor
 ·rintro⟨-,h⟩ e
  rw[e]at h;cases h
 ·intro h
  refine⟨hd n h,?_⟩;cases hn:d n with
  | none=>exact absurd hn h
  | some p=>rfl
theorem tO(d:ag):(keysOf d).length<=512:=by
 unfold keysOf;have:=List.length_filter_le (fun n=>(d n).isSome) (afv 512);rw[List.length_range]at this;exact this
theorem rj(d:ag):(keysOf d).Pairwise (· < ·):=afh List.filter_sublist List.pairwise_lt_range
theorem abC(txn:Nat){d:ag}(hd:∀n,d n≠none->n<512)(x:Int):x∈(keysOf d).map (fun(n:Nat)=>(n:Int))↔(dI txn d x).isSome=true:=by
 rw[List.mem_map];constructor
 ·rintro⟨n,hn,rfl⟩
  rw[jJ];have:=(iC hd n).1 hn;cases km:d n with
  | none=>exact absurd km this
  | some p=>rfl
 ·intro hx
  unfold dI at hx;by_cases h0:0<=x
  ·rw[if_pos h0]at hx
   refine⟨x.toNat,(iC hd _).2 (fun e=>by rw[e]at hx;cases hx),by omega⟩
  ·rw[if_neg h0]at hx;cases hx
theorem Fg{w:AI}{t dm nn txn:Nat}{cs:Array IS}{d:ag}(hc:Bk w t 103 cs)(mW:cs[13]? =some (.bool false))(h8:cs[8]? =some (.map (some dm)))(hm:IMap prog 3 w dm nn (dI txn d))(hn:nn<=600)(hd:∀n,d n≠none->n<512):
  Calls prog 24 #[.pointer (some ⟨t,0,none⟩)] w (fun e w'=>Below w.heap.size w w'/\∃v,e= .returned v/\w'.ownsRow w.heap.size 3 1 v (keysOf d).length (ints (keysOf d))):=by
 have HM:=sh (kC hc mW);have FC:=sh fun(W:AI)=>UP dm W;have sf:=sh (LI hm (by omega) ((keysOf d).map (fun(n:Nat)=>(n:Int))) (by rw[List.pairwise_map];exact(rj d).imp (fun h=>by omega)) (abC txn hd));have c8:=(hc.cell 8).trans h8;have lt:=hc.lt;clear hc mW h8 hm hd;go_enter func24,ntmps24
 go_wp2_with fail
 refine HM.out.mono ?_;rintro e w1 ⟨rfl,rfl⟩;go_wp2_with fail
 refine(FC.out _).mono ?_;rintro e w1 ⟨rfl,rfl⟩;go_wp2_with fail
 refine sf.out.mono ?_;rintro e w2 ⟨v,rfl,au,hb⟩;have HB:=sh (((Below.refl _ w).alloc (Nat.le_refl _) (.cells #[.map (some dm)] 100)).trans (hb.mono (by simp)));have HO:=sh (show w2.ownsRow w.heap.size 3 1 v (keysOf d).length (ints (keysOf d)) from by
  have h1:=l7 au (show w.heap.size<=w.heap.size+1 by omega);rw[aae,List.map_map]at h1;exact h1)
 clear hb au;go_wp2_with fail
 go_ret
 exact⟨HB.out,v,rfl,HO.out⟩
structure Kv.Sep (E:Kv):Prop where
 t:E.b∉E.T/\E.r∉E.T/\0∉E.T
 s:E.b∉E.Sd/\E.r∉E.Sd/\0∉E.Sd
 ap:∀b∈E.T,b∉E.Sd
def Kv.dev (E:Kv) (T Sd:List Nat) (P:eR) (D:DevS):Kv:={ E with T:=T,Sd:=Sd,P:=P,D:=D }
theorem dp.Gz{E:Kv}{w w':AI}{S:List Nat}{aa:Nat}{l:List (Nat×Nat)}{d:ag}{ch:List Nat}{f dm nn:Nat}{Sf:List Nat}{lv:IS}(h:dp E w S aa l d ch f dm nn Sf lv)(hs:E.Sep){T' cQ:List Nat}{P':eR}{D':DevS}
  (hd:Dev w' E.g cQ D') (hp:Pg w' E.q T' E.g P') (jr:∀b∈T',b∉cQ) (ho:ah (E.Sd++E.T) w w') (SJ:aj w E.Sd cQ) (ZX:aj w E.T T'):
  ∃S',dp (E.dev T' cQ P' D') w' S' aa l d ch f dm nn Sf lv/\(E.dev T' cQ P' D').Sep/\ah S w w'/\aj w S S':=by
 have dv:∀b∈E.Sd++E.T,b∈E.still:=fun b hb=>by
  rcases AT.1 hb with hb|hb
  ·simp[Kv.still,hb]
  ·simp[Kv.still,hb]
 have vp:∀b∈aB E.t f dm Sf lv (.slice none 0 0),b∉E.Sd++E.T:=fun b hb hs=>h.apart b hb (dv b hs);have hold:∀b∈aB E.t f dm Sf lv (.slice none 0 0),b<w.heap.size:=fun b hb=>by
  simp only[aB,IT,AT,abz]at hb;rcases hb with rfl|rfl|hb|hb|hb
  ·exact h.cells.lt
  ·exact h.map.lt
  ·exact(abr h.loose b hb).2
  ·rw[show (acf none 0 0).ownBlock=none from rfl]at hb;cases hb
  ·exact h.free.old b hb
 have hb:E.b∉E.Sd++E.T:=fun hm=>by
  rcases AT.1 hm with hm|hm
  ·exact hs.s.1 hm
  ·exact hs.t.1 hm
 have hr:E.r∉E.Sd++E.T:=fun hm=>by
  rcases AT.1 hm with hm|hm
  ·exact hs.s.2.1 hm
  ·exact hs.t.2.1 hm
 have qh:0∉E.Sd++E.T:=fun hm=>by
  rcases AT.1 hm with hm|hm
  ·exact hs.s.2.2 hm
  ·exact hs.t.2.2 hm
 refine⟨aB E.t f dm Sf lv (.slice none 0 0)++(E.dev T' cQ P' D').still,⟨ho.bk h.cells (vp E.t (by simp[aB])),h.free.off ho (fun b hb=>vp b (by simp[aB,hb])),h.map.off ho (vp _ (by simp[aB])),h.nn,ho.own h.loose (fun b hb=>vp b (by simp[aB,hb])),ho.bk h.db hb,ho.bk h.rd hr,hp,hd,h.row.off ho qh,rfl,h.nodup,fun b vk bm=> ?_⟩,⟨⟨fun hm=> ?_,fun hm=> ?_,fun hm=> ?_⟩,⟨fun hm=> ?_,fun hm=> ?_,fun hm=> ?_⟩,jr⟩,ho.mono (fun b hb=> .inl (by rw[h.blocks];exact AT.2 (.inr (dv b hb)))),fun b vk=> ?_⟩
 ·have hq:E.q∈E.still:=by simp[Kv.still]
  simp only[Kv.still,Kv.dev,IT,AT]at bm;rcases bm with rfl|rfl|rfl|rfl|bm|bm
  ·exact h.apart _ vk (by simp[Kv.still])
  ·exact h.apart _ vk (by simp[Kv.still])
  ·exact h.apart _ vk (by simp[Kv.still])
  ·exact h.apart _ vk (by simp[Kv.still])
  ·rcases ZX b bm with h9|h9
   ·exact h.apart _ vk (dv b (by simp[h9]))
   ·have:=hold b vk;omega
  ·rcases SJ b bm with h9|h9
   ·exact h.apart _ vk (dv b (by simp[h9]))
   ·have:=hold b vk;omega
 ·rcases ZX _ hm with h9|h9
  ·exact hs.t.1 h9
  ·exact absurd h9 (afI h.db.lt)
 ·rcases ZX _ hm with h9|h9
  ·exact hs.t.2.1 h9
  ·exact absurd h9 (afI h.rd.lt)
 ·rcases ZX _ hm with h9|h9
  ·exact hs.t.2.2 h9
  ·exact absurd h9 (afI h.row.lt)
 ·rcases SJ _ hm with h9|h9
  ·exact hs.s.1 h9
  ·exact absurd h9 (afI h.db.lt)
 ·rcases SJ _ hm with h9|h9
  ·exact hs.s.2.1 h9
  ·exact absurd h9 (afI h.rd.lt)
 ·rcases SJ _ hm with h9|h9
  ·exact hs.s.2.2 h9
  ·exact absurd h9 (afI h.row.lt)
 ·rw[h.blocks]
  rcases AT.1 vk with vk|vk
  ·exact .inl (AT.2 (.inl vk))
  ·simp only[Kv.still,Kv.dev,IT,AT]at vk
   rcases vk with rfl|rfl|rfl|rfl|vk|vk
   ·exact .inl (by simp[Kv.still])
   ·exact .inl (by simp[Kv.still])
   ·exact .inl (by simp[Kv.still])
   ·exact .inl (by simp[Kv.still])
   ·rcases ZX b vk with h9|h9
    ·exact .inl (AT.2 (.inr (dv b (by simp[h9]))))
    ·exact .inr h9
   ·rcases SJ b vk with h9|h9
    ·exact .inl (AT.2 (.inr (dv b (by simp[h9]))))
    ·exact .inr h9
def kx (t:Int) (d:ag):List Nat->DevS->DevS×Int
 | [],D=>(D,0)
 | n::ns,D=>match d n with
  | none=>kx t d ns D
  | some p=>if (D.writeL (4*n) (aK (bK p.kind n t p.body))).2=0 then kx t d ns (D.writeL (4*n) (aK (bK p.kind n t p.body))).1 else ((D.writeL (4*n) (aK (bK p.kind n t p.body))).1,(D.writeL (4*n) (aK (bK p.kind n t p.body))).2)
structure Wrt (E:Kv) (w:AI) (S:List Nat) (aa:Nat) (l:List (Nat×Nat)) (d:ag) (ch:List Nat) (f dm nn:Nat) (Sf:List Nat) (lv:IS) (ks:List Nat) (j:Nat) (wr:AI) (T' cQ:List Nat) (P':eR) (D':DevS) (S':List Nat):Prop where
 mem:dp (E.dev T' cQ P' D') wr S' aa l d ch f dm nn Sf lv
 sep:(E.dev T' cQ P' D').Sep
 off:ah S w wr
 fresh:aj w S S'
 go:kx E.txn d ks E.D=kx E.txn d (ks.drop j) D'
 log:P'={ E.P with log:=E.P.log++(ks.take j).map (fun(n:Nat)=>(n:Int)) }
 steps:D'.steps<=E.D.steps+4*j
 len:D'.sec.length=E.D.sec.length
def nu (E:Kv) (S:List Nat) (aa:Nat) (l:List (Nat×Nat)) (d:ag) (ch:List Nat) (f dm nn:Nat) (Sf:List Nat) (lv:IS) (w:AI) (e:Ending) (w':AI):Prop:=
 ∃(r:Int) (T' cQ:List Nat) (P':eR) (D':DevS) (S':List Nat) (m:Nat),e= .returned (.int .i64 r)/\kx E.txn d (keysOf d) E.D=(D',r)/\dp (E.dev T' cQ P' D') w' S' aa l d ch f dm nn Sf lv/\(E.dev T' cQ P' D').Sep/\ah S w w'/\aj w S S'/\
  P'={ E.P with log:=E.P.log++((keysOf d).take m).map (fun(n:Nat)=>(n:Int)) }/\D'.steps<=E.D.steps+2048/\D'.sec.length=E.D.sec.length
theorem Fm{E:Kv}{w:AI}{S:List Nat}{aa:Nat}{l:List (Nat×Nat)}{d:ag}{ch:List Nat}{f dm nn:Nat}{Sf:List Nat}{lv:IS}(h:dp E w S aa l d ch f dm nn Sf lv)(hs:E.Sep)(oQ:E.over=false)(gf:∀n p,d n=some p->cw p.kind n E.txn p.body=true/\(n:Int)<E.P.m.l/\4*n+4<=E.D.sec.length)(bm:E.D.steps<=999990000)(D8:E.P.log.length<=900000):
  Calls prog 51 #[.pointer (some ⟨E.t,0,none⟩)] w (nu E S aa l d ch f dm nn Sf lv w):=by
 have wM:∀n,d n≠none->n<512:=fun n hn=>by
  cases km:d n with
  | none=>exact absurd km hn
  | some p=>have:=(eY (gf n p km).1).2.2.2.1;omega
 have HDT:=sh (Fg (txn:=E.txn) h.cells (by rw[show (aT E ⟨aa,l,d,ch,[]⟩ f dm lv (.slice none 0 0))[13]? =some (.bool E.over) from rfl,oQ]) rfl h.map h.nn wM);have H:=sh h;have HS:=sh hs;have TX:=sh gf;have j5:=sh bm;have HLG:=sh D8;have HD5:=sh wM;have lt:=h.cells.lt;obtain⟨t,ht⟩:∃t,t=E.t:=⟨_,rfl⟩;have HT:=sh ht;rw[<-ht]at HDT lt |-;obtain⟨ks,jb⟩:∃ks,ks=keysOf d:=⟨_,rfl⟩;have bH:=sh jb;rw[<-jb]at HDT;have gT:ks.length<=512:=by rw[jb];exact tO d
 clear h hs oQ gf bm D8 wM ht jb;go_enter func51,ntmps51
 go_wp2_with fail
 refine HDT.out.mono ?_;rintro e w1 ⟨ar,v,rfl,au⟩;obtain⟨A,c,rfl,QH,dC,-,fF,gH⟩:=cT au;have bh:=sh ar;have Ka:=sh fF;have FB:=sh (show ∀a,A=some a->w.heap.size<=a.block/\a.block<w1.heap.size from fun a ha=>⟨(gH a ha).1,(abr au _ (gH a ha).2).2⟩);have DW:c<=9223372036854775807:=by unfold maxLen at dC;omega
 have h0:Hid (∃T' cQ P' D' S',Wrt E w1 S aa l d ch f dm nn Sf lv ks 0 w1 T' cQ P' D' S'):=⟨E.T,E.Sd,E.P,E.D,S,by
  have hm:=H.out;refine⟨⟨af hm.cells ar,hm.free.below ar,hm.map.off (ah.ae ar []) (by simp),hm.nn,(ah.ae ar []).own hm.loose (by simp),af hm.db ar,af hm.rd ar,hm.pg.below ar,hm.dev.below ar,hm.row.below ar,hm.blocks,hm.nodup,hm.apart⟩,HS.out,ah.refl _ _,aj.refl _ _,rfl,by simp,by simp,rfl⟩⟩
 clear au fF gH ar dC;go_wp2_with fail
 go_loopw [9] (fun i wr=>∃j:Nat,i= .int .i64 j/\j<=ks.length/\Hid (∃T' cQ P' D' S',Wrt E w1 S aa l d ch f dm nn Sf lv ks j wr T' cQ P' D' S')) (fun i _=>ks.length-(intOf i).toNat)
 case atStart=>exact⟨0,rfl,Nat.zero_le _,h0⟩
 case round=>
  obtain⟨j,rfl,hj,hI⟩:=hrel;obtain⟨T',cQ,P',D',S',hT⟩:=hI.out;by_cases aI:j<ks.length
  ·have z1:decide ((j:Int)<(ks.length:Int))=true:=decide_eq_true (by omega)
   obtain⟨n,hn⟩:∃n,n=ks[j]:=⟨_,rfl⟩;have VG:n∈ks:=by rw[hn];exact List.getElem_mem aI
   obtain⟨p,hp⟩:∃p,d n=some p:=by
    have:=(iC HD5.out n).1 (by rw[<-bH.out];exact VG);cases km:d n with
    | none=>exact absurd km this
    | some p=>exact⟨p,rfl⟩
   obtain⟨f1,f2,f3⟩:=TX.out n p hp;have tD:=HD5.out n (by rw[hp];simp);obtain⟨b,o,rfl,hb,fU⟩:=ints_at (Ka.out.off hT.off (fun a ha hs=>by
    have h1:=(FB.out a ha).1;have h2:a.block<w.heap.size:=by
     rw[H.out.blocks]at hs;rcases AT.1 hs with hs|hs
     ·simp only[aB,IT,AT,abz]at hs
      rcases hs with hs|hs|hs|hs|hs
      ·rw[hs];exact H.out.cells.lt
      ·rw[hs];exact H.out.map.lt
      ·exact(abr H.out.loose _ hs).2
      ·rw[show (acf none 0 0).ownBlock=none from rfl]at hs;cases hs
      ·exact H.out.free.old _ hs
     ·simp only[Kv.still,IT,AT]at hs
      rcases hs with hs|hs|hs|hs|hs|hs
      ·rw[hs];exact H.out.db.lt
      ·rw[hs];obtain⟨_,_,hp⟩:=H.out.pg;exact hp.cells.lt
      ·rw[hs];exact H.out.rd.lt
      ·rw[hs];exact H.out.row.lt
      ·exact H.out.pg.old _ hs
      ·exact H.out.dev.old _ hs
    omega)) j aI
   rw[<-hn]at fU;have Bf:∀x∈cQ++T',x∈(E.dev T' cQ P' D').still:=fun x hx=>by
    rcases AT.1 hx with hx|hx
    ·simp[Kv.still,Kv.dev,hx]
    ·simp[Kv.still,Kv.dev,hx]
   have MJ:E.t∉cQ++T':=fun hm=>hT.mem.apart E.t (by simp[aB,Kv.dev]) (Bf _ hm);have hdN:dm∉cQ++T':=fun hm=>hT.mem.apart dm (by simp[aB]) (Bf _ hm);have Zz:E.b∉cQ++T':=fun hm=>by
    rcases AT.1 hm with hm|hm
    ·exact hT.sep.s.1 hm
    ·exact hT.sep.t.1 hm
   have OZ:∀W,ah (cQ++T') wr W->W.cell? ⟨t,0,none⟩=some (.pointer (some ⟨E.b,0,none⟩))/\W.cell? ⟨E.b,0,none⟩=some (.pointer (some ⟨E.q,0,none⟩))/\W.cell? ⟨t,8,none⟩=some (.map (some dm))/\(acW 100 (.map (some dm)) (.int .i64 n) false).run prog W= .ok (.agg #[.int .i64 p.kind,.int .i64 n,.int .i64 E.txn,.string p.body]) W:=fun W hW=>by
    rw[HT.out];refine⟨(hW.bk hT.mem.cells MJ).cell 0,(hW.bk hT.mem.db Zz).cell 0,(hW.bk hT.mem.cells MJ).cell 8,?_⟩;have h1:=(hT.mem.map.off hW hdN).look underlying3 underlying100 (z:= .agg #[.int .i64 0,.int .i64 0,.int .i64 0,.string ⟨#[]⟩]) (by kernel_rfl) (i:=(n:Int)) (CD (by omega) (by omega));rw[h1,jJ,hp];rfl
   have ltr:t<wr.heap.size:=by rw[HT.out];exact hT.mem.cells.lt
   have lbr:E.b<wr.heap.size:=hT.mem.db.lt;have zk:P'.log.length<=1000000:=by
    rw[hT.log];have h1:=HLG.out;simp only[List.length_append,aae,List.length_take];omega
   have hpm:P'.m=E.P.m:=by rw[hT.log]
   have Sn:=sh fun(W:AI) (hW:ah [] wr W)=>EV (hT.mem.dev.off hW (by simp)) (hT.mem.pg.off hW (by simp)) hT.sep.ap (hT.mem.row.off hW (by simp)).1 p.kind E.txn n p.body f1 tD (by show (n:Int)<P'.m.l;rw[hpm];exact f2) (by show 4*n+4<=D'.sec.length;rw[hT.len];exact f3) (by have h1:=hT.steps;have h2:=j5.out;show D'.steps<=_;omega) zk;obtain⟨D2,r,hw⟩:∃D2 r,D'.writeL (4*n) (aK (bK p.kind n E.txn p.body))=(D2,r):=⟨_,_,rfl⟩;have YP:=sh (show ∀W,ah [] wr W->Calls prog 115 #[.pointer (some ⟨E.q,0,none⟩),.agg #[.int .i64 p.kind,.int .i64 n,.int .i64 E.txn,.string p.body]] W (jq E.g E.q cQ T' D2 (P'.ep n) r W) from fun W hW=>by
    have h1:=Sn.out W hW;have e1:(E.dev T' cQ P' D').D=D':=rfl;rw[e1,hw]at h1;exact h1)
   have Ay:ks.drop j=n::ks.drop (j+1):=by rw[hn];exact List.drop_eq_getElem_cons aI
   have cW:ks.take (j+1)=ks.take j++[n]:=by rw[hn];exact List.take_succ_eq_append_getElem aI
   have Eg:bK p.kind n E.txn p.body=bK p.kind n E.txn p.body:=rfl;have abk:∀x∈aK (bK p.kind n E.txn p.body),x.size=128:=fun x hx=>by
    obtain⟨i9,h9,rfl⟩:=List.mem_iff_getElem.1 hx;refine gw (s:=bK p.kind n E.txn p.body) ?_ (List.getElem?_eq_getElem h9);rw[jk f1];show (gV _ _ _ _).toArray.size=512;rw[List.size_toArray];refine mK _ _ _ _ ?_;have:=(eY f1).2.2.2.2.2.2;show p.body.data.toList.length<=488;rw[Array.length_toList];exact this
   obtain⟨v1,v2,v3⟩:=DevS.kE (aK (bK p.kind n E.txn p.body)) D' (4*n) (by show 4*n+4<=_;rw[hT.len];exact f3) abk;rw[hw]at v1 v2 v3;have IC:kx E.txn d ks E.D=if r=0 then kx E.txn d (ks.drop (j+1)) D2 else (D2,r):=by
    rw[hT.go,Ay];show (match d n with|none=>_|some p=>_)=_;rw[hp];simp only[hw]
   have oc:=sh (show ∀(w':AI) (hW:∃W,ah [] wr W/\wr.heap.size<=W.heap.size/\jq E.g E.q cQ T' D2 (P'.ep n) r W (.returned (.int .i64 r)) w'),(r=0->∃T' cQ P' D' S',Wrt E w1 S aa l d ch f dm nn Sf lv ks (j+1) w' T' cQ P' D' S')/\(r≠0->nu E S aa l d ch f dm nn Sf lv w (.returned (.int .i64 r)) w') from fun w' hex=>by
    obtain⟨W,hW,cZ,-,S2,T2,q1,q2,q3,q4,q5,q6⟩:=hex;obtain⟨S3,m1,m2,m3,m4⟩:=hT.mem.Gz hT.sep q1 q2 q3 (hW.mono (by simp) |>.trans q4) (q5.mono cZ) (q6.mono cZ);have S7:P'.ep n={ E.P with log:=E.P.log++(ks.take (j+1)).map (fun(n:Nat)=>(n:Int)) }:=by
     unfold eR.ep;rw[hT.log,cW];simp
    have abe:D2.steps<=E.D.steps+4*(j+1:Nat):=by
     have h1:=hT.steps;have h2:(aK (bK p.kind n E.txn p.body)).length=4:=rfl;rw[h2]at v2
     push_cast at v2 |-
     omega
    have bS:ah S w1 w':=hT.off.then m3 hT.fresh;have bZ:aj w1 S S3:=hT.fresh.trans m4 hT.off.size;refine⟨fun h0=>⟨T2,S2,P'.ep n,D2,S3,m1,m2,bS,bZ,?_,S7,abe,by rw[v1.sec];exact hT.len⟩,fun h0=>⟨r,T2,S2,P'.ep n,D2,S3,j+1,rfl,?_,m1,m2,(ah.ae bh.out S).trans bS,bZ.mono bh.out.size,?_,?_,by rw[v1.sec];exact hT.len⟩⟩
    ·rw[IC,if_pos h0]
    ·rw[<-bH.out,IC,if_neg h0]
    ·rw[<-bH.out];exact S7
    ·have:(j:Int)+1<=512:=by omega
     push_cast at abe
     omega)
   have T5:=sh OZ;have gr:r=0\/((r==0)=false/\(r != 0)=true/\r≠0):=by
    by_cases h9:r=0
    ·exact .inl h9
    ·exact .inr ⟨by rw[beq_eq_false_iff_ne];exact h9,by simpa using h9,h9⟩
   clear hT hI h0 OZ hn VG hp f1 f2 f3 hw Ay cW Eg abk v1 v2 v3 IC zk hpm Sn Bf MJ hdN Zz;rcases gr with rfl|⟨e1,e2,e3⟩
   ·go_wp2_with fail
    go_region_held3 (fun W=>W.cell? ⟨t,0,none⟩=some (.pointer (some ⟨E.b,0,none⟩))/\W.cell? ⟨E.b,0,none⟩=some (.pointer (some ⟨E.q,0,none⟩))/\W.cell? ⟨t,8,none⟩=some (.map (some dm))/\(acW 100 (.map (some dm)) (.int .i64 n) false).run prog W= .ok (.agg #[.int .i64 p.kind,.int .i64 n,.int .i64 E.txn,.string p.body]) W) (first|exact T5.out _ (ah.refl _ _).drew|exact T5.out _ uV.out)
     (first
     | (go_at_call 115;refine(YP.out _ (ah.refl _ _).drew).mono ?_;intro e w5 pJ;obtain⟨rfl,-⟩:=id pJ;have zz:=sh pJ;have uV:=sh (show ah (cQ++T') wr w5 from by obtain⟨-,_,_,-,-,-,q4,-,-⟩:=pJ;exact((ah.refl (cQ++T') wr).drew).trans q4);clear pJ)
     | fail)
    all_goals
     obtain⟨T3,Sd3,P3,D3,S3,hW3⟩:=(oc.out w5 ⟨_,(ah.refl [] wr).drew,by simp,zz.out⟩).1 (by first|exact trivial|rfl);have vc:=sh (show ∃T' cQ P' D' S',Wrt E w1 S aa l d ch f dm nn Sf lv ks (j+1) w5 T' cQ P' D' S' from ⟨T3,Sd3,P3,D3,S3,hW3⟩);clear hW3 uV;go_wp2_with fail
     go_roundw
     case rel=>first|exact⟨j+1,by go_num,by omega,vc⟩|((repeat apply Exists.intro);exact⟨⟨j+1,by go_num,by omega,vc⟩,rfl⟩)
     case measure=>simp[intOf];omega
   ·go_wp2_with fail
    go_region_held3 (fun W=>W.cell? ⟨t,0,none⟩=some (.pointer (some ⟨E.b,0,none⟩))/\W.cell? ⟨E.b,0,none⟩=some (.pointer (some ⟨E.q,0,none⟩))/\W.cell? ⟨t,8,none⟩=some (.map (some dm))/\(acW 100 (.map (some dm)) (.int .i64 n) false).run prog W= .ok (.agg #[.int .i64 p.kind,.int .i64 n,.int .i64 E.txn,.string p.body]) W) (first|exact T5.out _ (ah.refl _ _).drew|exact T5.out _ uV.out)
     (first
     | (go_at_call 115;refine(YP.out _ (ah.refl _ _).drew).mono ?_;intro e w5 pJ;obtain⟨rfl,-⟩:=id pJ;have zz:=sh pJ;have uV:=sh (show ah (cQ++T') wr w5 from by obtain⟨-,_,_,-,-,-,q4,-,-⟩:=pJ;exact((ah.refl (cQ++T') wr).drew).trans q4);clear pJ)
     | fail)
    all_goals
     have vc:=sh ((oc.out w5 ⟨_,(ah.refl [] wr).drew,by simp,zz.out⟩).2 e3);clear uV e3;go_wp2_with fail
     go_ret
     exact vc.out
  ·have z1:decide ((j:Int)<(ks.length:Int))=false:=decide_eq_false (by omega)
   have vo:j=ks.length:=by omega
   have HE:=sh (show nu E S aa l d ch f dm nn Sf lv w (.returned (.int .i64 0)) wr from ⟨0,T',cQ,P',D',S',ks.length,rfl,by
    have:=hT.go;rw[vo,List.drop_length]at this;rw[<-bH.out];exact this,hT.mem,hT.sep,(ah.ae bh.out S).trans hT.off,hT.fresh.mono bh.out.size,by
    have:=hT.log;rw[vo]at this;rw[<-bH.out];exact this,by have:=hT.steps;omega,hT.len⟩)
   clear hT hI h0;go_wp2_with fail
   go_ret
   exact HE.out
end Go.Proofs.YtjbcbnemdhbhbaaGreatDoor
