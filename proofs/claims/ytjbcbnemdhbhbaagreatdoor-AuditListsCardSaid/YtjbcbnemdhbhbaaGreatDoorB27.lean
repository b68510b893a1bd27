import Derived.Test.YtjbcbnemdhbhbaaGreatDoorB22
import Derived.Test.YtjbcbnemdhbhbaaGreatDoorB0
import Derived.Shelf.SlIterI.Nil
import Derived.Shelf.SortM.Plain
import Derived.Shelf.SortM.SortNone
import Derived.Test.YtjbcbnemdhbhbaaGreatDoorB26
import Derived.Test.YtjbcbnemdhbhbaaGreatDoorB9
import Derived.Shelf.SlIter.Nil
set_option maxRecDepth 100000
set_option linter.unusedVariables false
set_option linter.unusedSimpArgs false
set_option maxHeartbeats 40000000
open Go renaming Calls→aag,Value→IS,World→AI,callsIn_wide→afZ
open Go.Fence renaming wide→agk
open Go.Lib renaming hid→sh
open Go.Maps renaming has→afp
open Go.RowKit.Below renaming heap_alloc→aeS
open Go.Value renaming ownBlock→aaU
open Go.World.ownsRow renaming lt→abr
open List renaming append_assoc→OF,length_append→BY,length_map→aae,length_range→aeA,mem_append→AT,mem_cons→IT,mem_filter→agq,mem_map→abO,mem_singleton→By,nodup_append→aai,nodup_cons→abN,pairwise_map→adT,perm_middle→acL,range→afv
open List.Perm renaming trans→adt
open Option renaming mem_toList→abz
namespace Go.Proofs.YtjbcbnemdhbhbaaGreatDoor
open Go.Proofs.Tryz
open Go.RowKit Go.Maps Go.Sort Go.Shelf
theorem WB(m:Nat):AnyZI.SortsIn prog Tryz.sortedA_ren agk m:=
 ⟨fun jC off cap ss W hH mT cZ=>afZ.2 (AnyM.slices_Sort_int Tryz.sortA jC off cap ss W hH mT cZ),
  fun p cap W=>afZ.2 (AnyM.slices_Sort_int_none Tryz.sortA p cap W)⟩
theorem Wj{l l':List Int}(h:l.Perm l')(hs:l'.Pairwise (· < ·)):l.mergeSort (fun x y=>decide (x<=y))=l':=by
 have h1:(l.mergeSort (fun x y=>decide (x<=y))).Perm l':=(List.mergeSort_perm _ _).trans h;have h2:(l.mergeSort (fun x y=>decide (x<=y))).Pairwise (fun x y=>x<=y):=by
  have:=List.pairwise_mergeSort (le:=fun(x y:Int)=>decide (x<=y)) (by intro a b c;simp;omega) (by intro a b;simp;omega) l;exact this.imp (by intro a b;simp)
 exact h1.eq_of_pairwise (by intro a b _ _ h3 h4;omega) h2 (hs.imp (by intro a b h;omega))
def Dq (keys:List Int) (B:Nat) (w:AI) (e:Ending) (w':AI):Prop:=
 ∃v,e= .returned v/\w'.ownsRow B 3 1 v keys.length (keys.map (Value.int .i64))/\Below B w w'
theorem IMap.tight{P:Program}{k:TypeId}{w:AI}{m nn:Nat}{V:Int->Option IS}(h:IMap P k w m nn V)(hk:P.underlying k=some (.int .i64))(keys:List Int)(hs:keys.Pairwise (· < ·))(hm:∀x,x∈keys↔(V x).isSome=true):IMap P k w m keys.length V:=by
 obtain⟨D,au,ha⟩:=h;obtain⟨Y2,hD0,hp,gT⟩:=au.entries (int_keyed hk);obtain⟨es,clock,hb,F,cZ,hD⟩:=id au;have gU:keys.Perm (intKeys (.map Y2)):=by
  refine perm_intKeys hp ?_ (hs.imp (by intro a b h;omega)) (fun x=> ?_)
  ·intro p lR
   have h1:afp (.map Y2) p.1=true:=List.any_eq_true.2 ⟨p,lR,WideAt.sameKey_self (gT p lR)⟩;rw[<-hD0]at h1;obtain⟨i,v,_,he⟩:=ha.2 _ h1;exact⟨i,he⟩
  ·rw[hm x,<-eN ha,hD0]
 have h1:=gU.length_eq;have h2:(intKeys (.map Y2)).length=Y2.length:=by simp[intKeys]
 have h3:Y2.length=es.size:=by
  have h4:=hD0.symm.trans hD;injection h4 with h4;rw[h4,length_sorted,aae,Array.length_toList]
 exact⟨D,⟨es,clock,hb,F,by omega,hD⟩,ha⟩
theorem bd.mapped{E:Kv}{w w':AI}{S hd hd':List Nat}{x:Tx}{f dm nn tX:Nat}{Sf:List Nat}{lv fv:IS}{d:ag}(h:bd E w S hd x f dm nn Sf lv fv)(hm:IMap prog 3 w' dm tX (dI E.txn d))(hn:tX<=600)(ho:ah [dm] w w')(fi:({ x with ax:=d }:Tx).Ok E.limit E.cF E.U E.pc hd'):bd E w' S hd' { x with ax:=d } f dm tX Sf lv fv:=by
 have cg:=h.nodup;unfold aB at cg;have bm:∀b∈E.still,b∉[dm]:=fun b hb hs=>by
  rw[By]at hs;subst hs;exact h.apart _ (by simp[aB]) hb
 have h1:=abN.1 cg;have h2:=abN.1 h1.2;have vp:∀b∈E.t::(lv.ownBlock.toList++(fv.ownBlock.toList++Sf)),b∉[dm]:=fun b hb hs=>by
  rw[By]at hs;subst hs;rcases IT.1 hb with rfl|hb
  ·exact h1.1 (by simp)
  ·exact h2.1 hb
 have gI:=h.db;exact⟨ho.bk h.cells (vp _ (by simp)),h.free.off ho (fun b hb=>vp b (by simp[hb])),hm,hn,ho.own h.loose (fun b hb=>vp b (by simp[hb])),ho.own h.aM (fun b hb=>vp b (by simp[hb])),ho.bk gI (bm _ (by simp[Kv.still])),ho.bk h.rd (bm _ (by simp[Kv.still])),
  h.pg.off ho (fun b hb=>bm b (by simp[Kv.still,hb])),h.dev.off ho (fun b hb=>bm b (by simp[Kv.still,hb])),h.row.off ho (bm _ (by simp[Kv.still])),fi,h.blocks,h.nodup,h.apart⟩
theorem IMap.oG{w:AI}{m nn txn:Nat}{d:ag}(h:IMap prog 3 w m nn (dI txn d))(hd:∀n,d n≠none->n<512):∃tX,tX<=600/\IMap prog 3 w m tX (dI txn d):=by
 refine⟨_,?_,h.tight underlying3 (((afv 512).filter fun i=>(d i).isSome).map fun i:Nat=>(i:Int)) ?_ fun x=> ?_⟩
 ·rw[aae]
  have:=List.length_filter_le (fun i=>(d i).isSome) (afv 512);rw[aeA]at this;omega
 ·rw[adT]
  exact(List.pairwise_lt_range.filter _).imp (by intro a b h;omega)
 ·rw[abO]
  constructor
  ·rintro⟨i,hi,rfl⟩
   rw[jJ];have:=(agq.1 hi).2;cases hdi:d i with
   | none=>rw[hdi]at this;cases this
   | some p=>rfl
  ·intro hx
   unfold dI at hx;by_cases h0:0<=x
   ·rw[if_pos h0]at hx
    cases hdi:d x.toNat with
    | none=>rw[hdi]at hx;cases hx
    | some p=>exact⟨x.toNat,agq.2 ⟨List.mem_range.2 (hd _ (by rw[hdi];simp)),by rw[hdi];rfl⟩,by omega⟩
   ·rw[if_neg h0]at hx;cases hx
theorem JZ{E:Kv}(hE:E.Ok){w:AI}{S:List Nat}{x:Tx}{f dm nn:Nat}{Sf:List Nat}{lv fv:IS}(h:bd E w S [] x f dm nn Sf lv fv)(p:rO)(hk:p.kind<=4):
  aag prog 319 #[.agg #[.pointer (some ⟨E.t,0,none⟩)],.int .i64 p.kind,.string p.body] w (fun e w'=>
   (∃(n:Nat) (x':Tx),e= .returned (.tuple #[.int .i64 n,.int .i64 0])/\Tx.ei E.limit E.upto.toNat x n x'/\x'.Ok E.limit E.cF E.U E.pc [n]/\jo E S [] { x' with ax:=Tr.cY x'.ax n (some p) } w w')\/
   (e= .returned (.tuple #[.int .i64 0,.int .i64 9])/\x.sure E.limit E.upto.toNat=0/\jo E S [] x w w')):=by
 have HP:=sh (BN hE (h.off ((ah.refl [] w).alloc (.cells #[.pointer (some ⟨E.t,0,none⟩)] 111)) (by simp)));have fZ:=sh h.old;have lt:=h.cells.lt;have HE:=sh hE;clear h hE;go_enter func319,ntmps319
 go_wp2_with fail
 (with_reducible refine HP.out.mono ?_)
 rintro e w1 (⟨n,x',rfl,ey,S1,f1,UR,nn1,Sf1,lv1,fv1,og,qW,OU⟩|⟨rfl,u7,S1,f1,UR,nn1,Sf1,lv1,fv1,og,qW,OU⟩)
 ·have hr:=og.ok.range.2.2.2.2.2 n (by simp)
  have hle:=og.ok.le;have kS:=og.ok.lim;obtain⟨w2,cm,aaa,tA⟩:=(og.map.off ((ah.refl [] w1).drew) (by simp)).update underlying3 underlying100 (by have:=og.nn;unfold maxLen;omega) (i:=(n:Int)) (CD (by omega) (by omega)) (.agg #[.int .i64 p.kind,.int .i64 n,.int .i64 E.txn,.string p.body]);have q1:w1.cell? ⟨E.t,1,none⟩=some (.int .i64 E.txn):=og.cells.cell 1;have q8:w1.cell? ⟨E.t,8,none⟩=some (.map (some UR)):=og.cells.cell 8;have XC:=og.cells.lt;have HM:=sh og;have HX:=sh (show Tx.ei E.limit E.upto.toNat x n x'/\ah S (w.alloc (.cells #[.pointer (some ⟨E.t,0,none⟩)] 111)) w1/\aj (w.alloc (.cells #[.pointer (some ⟨E.t,0,none⟩)] 111)) S S1 from ⟨ey,qW,OU⟩);have kU:ah [UR] w1 w2:=(ah.refl [UR] w1).drew.grown tA (fun g hg=> .inl (by simp at hg;simp[hg]));have SN:IMap prog 3 w2 UR (nn1+1) (dI E.txn (Tr.cY x'.ax n (some p))):=by
   rw[<-nC];exact aaa
  have fi:=og.ok.lay p;obtain⟨nn2,jv,aab⟩:=SN.oG (fun m hm=>by have:=fi.range.2.1 m hm;have:=fi.le;have:=fi.lim;omega);have j5:=sh (show jo E S [] { x' with ax:=Tr.cY x'.ax n (some p) } w w2 from ⟨S1,f1,UR,nn2,Sf1,lv1,fv1,og.mapped aab jv kU fi,(((ah.refl S w).alloc _).trans qW).then kU (fun b hb=>by
     rw[By]at hb;subst hb;have h9:b∈S1:=by rw[og.blocks];simp[aB]
     rcases OU b h9 with h8|h8
     ·exact .inl h8
     ·exact .inr (by simp at h8;omega)),OU.mono (by simp)⟩)
  clear og ey qW OU aaa tA kU SN fi aab;go_wp2_with fail
  go_region_with (fail)
  all_goals
   go_wp2_with fail
   go_ret2
   exact .inl ⟨n,x',rfl,HX.out.1,HM.out.ok,j5.out⟩
 ·have HX:=sh (show jo E S [] x w w1 from ⟨S1,f1,UR,nn1,Sf1,lv1,fv1,og,((ah.refl S w).alloc _).trans qW,OU.mono (by simp)⟩)
  have HS:=sh u7;clear og qW OU u7;go_wp2_with fail
  go_ret2
  exact .inr ⟨rfl,HS.out,HX.out⟩
end Go.Proofs.YtjbcbnemdhbhbaaGreatDoor
namespace Go.Proofs.YtjbcbnemdhbhbaaGreatDoor
open Go.Proofs.Tryz
open Go.RowKit
namespace Tx
theorem Ok.aew{x:Tx}{limit n:Nat}{D:ag}{U pc h:List Nat}(k:x.Ok limit D U pc h)(hd:x.ax n≠none):({ x with ax:=Tr.cY x.ax n none }:Tx).Ok limit D U pc (n::h):=by
 obtain⟨dk,h1,h2⟩:=k.perm;have hm:=(h1 n).2 hd;obtain⟨a,b,rfl⟩:=List.append_of_mem hm;have hn:=k.nodup h2;have oL:n∉a++b:=by
  have h3:=(aai.1 (aai.1 hn).2.1).1;have:=(acL (a:=n) (l₁ :=a) (l₂ :=b)).nodup_iff.1 h3;exact(abN.1 this).1
 refine⟨⟨a++b,fun m=> ?_,?_⟩,k.one,k.le,k.lim,k.sorted,k.aM,k.sub,k.cF,k.eQ⟩
 ·show m∈a++b↔Tr.cY x.ax n none m≠none
  by_cases e:m=n
  ·subst e;rw[Tr.fM];simp[oL]
  ·rw[Tr.dM _ _ e,<-h1 m];simp[e]
 ·refine adt ?_ h2
  have p1:=acL (a:=n) (l₁ :=Fr.pg x.fr++((a++b)++(x.loose++(U++pc)))) (l₂ :=h);have p2:=acL (a:=n) (l₁ :=Fr.pg x.fr++a) (l₂ :=b++(x.loose++(U++(pc++h))));refine adt (by simpa[OF]using p1) ?_;simpa[OF]using p2.symm
theorem Ok.keep{x:Tx}{limit n:Nat}{D:ag}{U pc h:List Nat}(k:x.Ok limit D U pc (n::h)):({ x with loose:=x.loose++[n] }:Tx).Ok limit D U pc h:=by
 obtain⟨dk,h1,h2⟩:=k.perm;refine⟨⟨dk,h1,?_⟩,k.one,k.le,k.lim,k.sorted,k.aM,k.sub,k.cF,k.eQ⟩;refine adt ?_ h2;have p1:=acL (a:=n) (l₁ :=Fr.pg x.fr++(dk++x.loose)) (l₂ :=U++(pc++h));have p2:=acL (a:=n) (l₁ :=Fr.pg x.fr++(dk++(x.loose++(U++pc)))) (l₂ :=h);refine adt (by simpa[OF]using p1) ?_;simpa[OF]using p2.symm
end Tx
theorem bd.grow{E:Kv}{w w':AI}{S hd hd':List Nat}{x x':Tx}{f dm nn:Nat}{Sf:List Nat}{lv fv lv' fv':IS}(h:bd E w S hd x f dm nn Sf lv fv)(hc:Bk w' E.t 103 (aT E x' f dm lv' fv')){U:List Nat}(ho:ah U w w')(hU:∀b∈U,b=E.t\/lv.ownBlock=some b\/fv.ownBlock=some b)(bZ:x'.fr=x.fr)(hdy:x'.ax=x.ax)
  (hl:w'.ownsRow 0 3 1 lv' x'.loose.length (ints x'.loose)) (hf:w'.ownsRow 0 3 1 fv' x'.aM.length (ints x'.aM)) (e1:∀g,lv'.ownBlock=some g->lv.ownBlock=some g\/w.heap.size<=g) (e2:∀g,fv'.ownBlock=some g->fv.ownBlock=some g\/w.heap.size<=g)
  (e3:lv'.ownBlock=lv.ownBlock\/fv'.ownBlock=fv.ownBlock) (fi:x'.Ok E.limit E.cF E.U E.pc hd'):jo E S hd' x' w w':=by
 have cg:=h.nodup;have hold:=h.old;have dv:∀b∈aB E.t f dm Sf lv fv,b∈S:=fun b hb=>by rw[h.blocks];exact AT.2 (.inl hb)
 have hUm:∀b∈U,b∈aB E.t f dm Sf lv fv:=fun b hb=>by
  rcases hU b hb with rfl|e|e
  ·simp[aB]
  ·simp[aB,e]
  ·simp[aB,e]
 have bm:∀b∈E.still,b∉U:=fun b hb hs=>h.apart b (hUm b hs) hb;unfold aB at cg;have n1:=abN.1 cg;have n2:=abN.1 n1.2;have n3:=aai.1 n2.2;have n4:=aai.1 n3.2.1;have hdm:dm∉U:=fun hs=>by
  rcases hU dm hs with e|e|e
  ·exact n1.1 (by rw[<-e];simp)
  ·exact n2.1 (by simp[e])
  ·exact n2.1 (by simp[e])
 have hSf:∀b∈Sf,b∉U:=fun b hb hs=>by
  rcases hU b hs with rfl|e|e
  ·exact n1.1 (by simp[hb])
  ·exact n3.2.2 b (by simp[e]) b (by simp[hb]) rfl
  ·exact n4.2.2 b (by simp[e]) b hb rfl
 have hfb:∀b∈lv'.ownBlock.toList++fv'.ownBlock.toList,b∈lv.ownBlock.toList++fv.ownBlock.toList\/w.heap.size<=b:=fun b hb=>by
  rcases AT.1 hb with hb|hb
  ·rw[abz]at hb
   exact(e1 b hb).imp (fun hh=>by simp[hh]) id
  ·rw[abz]at hb
   exact(e2 b hb).imp (fun hh=>by simp[hh]) id
 have VO:∀b,(b=E.t\/b=dm\/b∈Sf)->b<w.heap.size/\b∉lv.ownBlock.toList++fv.ownBlock.toList:=fun b hb=>by
  rcases hb with rfl|rfl|hb
  ·exact⟨h.cells.lt,fun hs=>n1.1 (by rcases AT.1 hs with hs|hs<;>simp only[IT,AT,hs,true_or,or_true])⟩
  ·exact⟨h.map.lt,fun hs=>n2.1 (by rcases AT.1 hs with hs|hs<;>simp only[AT,hs,true_or,or_true])⟩
  ·refine⟨h.free.old b hb,fun hs=> ?_⟩
   rcases AT.1 hs with hs|hs
   ·exact n3.2.2 b hs b (by simp[hb]) rfl
   ·exact n4.2.2 b hs b hb rfl
 have qk:∀b,(b=E.t\/b=dm\/b∈Sf)->b∉lv'.ownBlock.toList++fv'.ownBlock.toList:=fun b hb hs=>by
  obtain⟨h1,h2⟩:=VO b hb;rcases hfb b hs with h3|h3
  ·exact h2 h3
  ·omega
 have Vi:∀b∈lv'.ownBlock.toList,b∉fv'.ownBlock.toList:=fun b hb hs=>by
  rw[abz]at hb hs;rcases e3 with e|e
  ·rw[e]at hb
   rcases e2 b hs with h3|h3
   ·exact n3.2.2 b (by simp[hb]) b (by simp[h3]) rfl
   ·have:=(abr h.loose b hb).2;omega
  ·rw[e]at hs
   rcases e1 b hb with h3|h3
   ·exact n3.2.2 b (by simp[h3]) b (by simp[hs]) rfl
   ·have:=(abr h.aM b hs).2;omega
 have oO:(aB E.t f dm Sf lv' fv').Nodup:=by
  unfold aB;refine abN.2 ⟨fun hs=> ?_,abN.2 ⟨fun hs=> ?_,aai.2 ⟨?_,aai.2 ⟨?_,n4.2.1,?_⟩,?_⟩⟩⟩
  ·rcases IT.1 hs with e|hs
   ·exact n1.1 (by rw[e];simp)
   ·rw[<-OF]at hs
    rcases AT.1 hs with hs|hs
    ·exact qk _ (.inl rfl) hs
    ·exact n1.1 (by simp[hs])
  ·rw[<-OF]at hs
   rcases AT.1 hs with hs|hs
   ·exact qk _ (.inr (.inl rfl)) hs
   ·exact n2.1 (by simp[hs])
  ·cases lv'.ownBlock<;>simp
  ·cases fv'.ownBlock<;>simp
  ·rintro a ha b hb rfl
   exact qk a (.inr (.inr hb)) (by simp only[AT,ha,or_true])
  ·rintro a ha b hb rfl
   rcases AT.1 hb with hb|hb
   ·exact Vi a ha hb
   ·exact qk a (.inr (.inr hb)) (by simp only[AT,ha,true_or])
 have jr:∀b∈aB E.t f dm Sf lv' fv',b∈aB E.t f dm Sf lv fv\/w.heap.size<=b:=fun b hb=>by
  unfold aB at hb |-;rcases IT.1 hb with rfl|hb
  ·exact .inl (by simp)
  ·rcases IT.1 hb with rfl|hb
   ·exact .inl (by simp)
   ·rw[<-OF]at hb
    rcases AT.1 hb with hb|hb
    ·refine(hfb b hb).imp (fun hh=> ?_) id
     rcases AT.1 hh with hh|hh<;>simp only[IT,AT,hh,true_or,or_true]
    ·exact .inl (by simp[hb])
 have jx:∀b∈E.still,b<w.heap.size:=fun b hb=>hold b (by rw[h.blocks];exact AT.2 (.inr hb));have gI:=h.db;refine⟨aB E.t f dm Sf lv' fv'++E.still,f,dm,nn,Sf,lv',fv',⟨hc,by rw[bZ];exact h.free.off ho hSf,by rw[hdy];exact h.map.off ho hdm,h.nn,hl,hf,ho.bk gI (bm _ (by simp[Kv.still])),ho.bk h.rd (bm _ (by simp[Kv.still])),
  h.pg.off ho (fun b hb=>bm b (by simp[Kv.still,hb])),h.dev.off ho (fun b hb=>bm b (by simp[Kv.still,hb])),h.row.off ho (bm _ (by simp[Kv.still])),fi,rfl,oO,fun b hb hs=> ?_⟩,ho.mono (fun b hb=> .inl (dv b (hUm b hb))),fun b hb=> ?_⟩
 ·rcases jr b hb with h1|h1
  ·exact h.apart b h1 hs
  ·have:=jx b hs;omega
 ·rcases AT.1 hb with hb|hb
  ·exact(jr b hb).imp (dv b) id
  ·exact .inl (by rw[h.blocks];exact AT.2 (.inr hb))
theorem ints_at{w:AI}{A:Option Addr}{l:List Nat}(h:Sl w A (ints l))(j:Nat)(hj:j<l.length):∃b o,A=some ⟨b,o,none⟩/\b<w.heap.size/\w.cell? ⟨b,o+j,none⟩=some (.int .i64 (l[j]:Nat)):=
 h j (.int .i64 (l[j]:Nat)) (by simp[ints,hj])
theorem MT{w:AI}{A:Option Addr}{c:Nat}{l:List Nat}(h:Sl w A (ints l))(hl:l.length<=100000)(n:Nat)(hn:n∉l):aag prog 213 #[.slice A l.length c,.int .i64 n] w (fun e w'=>e= .returned (.int .i64 (-1))/\w=w'):=by
 have H:=sh h;have HN:=sh hn;obtain⟨m,hm⟩:∃m,m=l.length:=⟨_,rfl⟩;have HM:=sh hm;rw[<-hm]at hl |-;clear h hn hm;go_enter func213,ntmps213
 go_wp2_with fail
 go_loop [8] (fun i=>∃k:Nat,i= .int .i64 k/\k<=m) (fun i=>m-(intOf i).toNat)
 case atStart=>exact⟨0,rfl,Nat.zero_le _⟩
 case round=>
  obtain⟨k,rfl,hk⟩:=hrel;by_cases aI:k<m
  ·have z1:decide ((k:Int)<(m:Int))=true:=decide_eq_true (by omega)
   have z2:decide (k<m)=true:=decide_eq_true aI;obtain⟨b,o,rfl,lb,q⟩:=ints_at H.out k (by rw[<-HM.out];exact aI);obtain⟨y,hy⟩:∃y,y=l[k]'(by rw[<-HM.out];exact aI):=⟨_,rfl⟩;have bL:((n:Int)==(y:Int))=false:=by
    rw[beq_eq_false_iff_ne];intro e;have e2:n=y:=by omega
    exact HN.out (by rw[e2,hy];exact List.getElem_mem _)
   have VD:(n==y)=false:=by rw[beq_eq_false_iff_ne];rw[beq_eq_false_iff_ne]at bL;omega
   rw[<-hy]at q;clear hy;go_wp2_with fail
   go_round
   case rel=>exact⟨k+1,by go_num,by omega⟩
   case measure=>simp[intOf];omega
  ·have z1:decide ((k:Int)<(m:Int))=false:=decide_eq_false (by omega)
   have z2:decide (k<m)=false:=decide_eq_false aI;go_wp2_with fail
   go_ret
   exact⟨rfl,rfl⟩
theorem qO{w:AI}{A:Option Addr}{c:Nat}{l:List Nat}(h:Sl w A (ints l))(hl:l.length<=100000)(n:Nat)(hn:n∉l):aag prog 157 #[.slice A l.length c,.int .i64 n] w (fun e w'=>e= .returned (.bool false)/\w=w'):=by
 have HI:=sh (MT (c:=c) h hl n hn);clear h hl hn;go_enter func157,ntmps157
 go_wp2_with fail
 (with_reducible refine HI.out.mono ?_)
 rintro e w' ⟨rfl,rfl⟩;go_wp2_with fail
 go_ret
 exact⟨rfl,rfl⟩
theorem JW{E:Kv}{w:AI}{S:List Nat}{x:Tx}{f dm nn:Nat}{Sf:List Nat}{lv fv:IS}(h:bd E w S [] x f dm nn Sf lv fv)(n:Nat)(hd:x.ax n≠none):
  aag prog 317 #[.agg #[.pointer (some ⟨E.t,0,none⟩)],.int .i64 n] w (fun e w'=>e= .returned (.int .i64 0)/\jo E S [] { x with ax:=Tr.cY x.ax n none,loose:=x.loose++[n] } w w'):=by
 obtain⟨p,hp⟩:=Option.ne_none_iff_exists'.1 hd;have hr:=h.ok.range.2.1 n hd;have hle:=h.ok.le;have kS:=h.ok.lim;have hn:n<512:=by omega
 have c8:w.cell? ⟨E.t,8,none⟩=some (.map (some dm)):=h.cells.cell 8;have lt:=h.cells.lt;have XC:E.t<w.heap.size+1:=by omega
 have hl:∀W,ah [] w W->(Instr.lookup 100 (.map (some dm)) (.int .i64 n) true).run prog W= .ok (.tuple #[TC E.txn n p,.bool true]) W:=fun W hW=>by
  have:=pj h n hn W hW;rw[hp]at this;exact this
 have HL:=sh (hl (w.alloc (.cells #[.pointer (some ⟨E.t,0,none⟩)] 111)) ((ah.refl [] w).alloc _));unfold TC at HL;have Xp:=HL.out;obtain⟨wa,Tw⟩:∃wa,wa=(w.alloc (.cells #[.pointer (some ⟨E.t,0,none⟩)] 111)).alloc (.cells #[.int .i64 p.kind,.int .i64 n,.int .i64 E.txn,.string p.body] 126):=⟨_,rfl⟩;have gX:Below w.heap.size w wa:=by rw[Tw];exact((Below.refl _ w).alloc (Nat.le_refl _) _).alloc (by simp) _
 have Vz:=h.off (ah.ae gX []) (by simp);obtain⟨w2,aeZ,SN,kU⟩:=Vz.map.drop (ty:=0) underlying3 underlying100 (i:=(n:Int)) (CD (by omega) (by omega));have SN:IMap prog 3 w2 dm nn (dI E.txn (Tr.cY x.ax n none)):=by
  rw[<-nC];exact SN
 have mF:=Vz.mapped SN Vz.nn kU (Vz.ok.aew hd);obtain⟨A,c,hv,hA,dC⟩:=bg mF.loose;have q9:w2.cell? ⟨E.t,9,none⟩=some lv:=mF.cells.cell 9;have f9:=mF.cells.frozen 9;have Q4:=mF.cells.lt;have hlen:x.loose.length<=512:=by
  have:=Vz.ok;obtain⟨dk,k1,k2⟩:=this.perm;have h1:=k2.length_eq;simp only[BY,iS,aae,aeA]at h1;omega
 obtain⟨i0,hi,ef,dK,dY⟩:=info_parts iz;rw[Tw]at aeZ;have gW:=sh (show ah S w w2 from (ah.ae gX S).then kU (fun b hb=>by rw[By]at hb;subst hb;exact .inl (by rw[Vz.blocks];simp[aB])));have Dg:=sh mF;have eJ:=sh mF.loose;have rN:=sh hv;have ON:=sh (show w.heap.size<=w2.heap.size from Nat.le_trans gX.size kU.size);obtain⟨m,rX⟩:∃m,m=x.loose.length:=⟨_,rfl⟩;have vY:=sh rX;have Bh:lv= .slice A m c:=by rw[rX];exact hv
 rw[<-rX]at hlen eJ;rw[Bh]at q9 eJ;have bf:=eJ.out;have uN:=sh Bh;have WW:=sh (show aaU (.slice A m c)≠some E.t from bP bf mF.cells (by decide));clear h hp hl Tw gX Vz SN kU mF hv hA dC hr hle kS hd Bh rX;go_enter func317,ntmps317
 go_wp2_with (first
  | (at_builtin;refine wpList_append_lies _ rfl (.tmp 29) (.tmp 31) 51 rfl 0 3 i0 (.int .i64 0) 1 8 underlying51 hi ef dK dY rfl (by omega) (.slice A m c) m (ints x.loose) rfl (bf.alloc _) ⟨w2.heap.size,0,none⟩ 1 1 [.int .i64 n] rfl rfl (World.news_of_block (cs:= #[.int .i64 n]) (heap_alloc_new w2 _)) (gD [n]) (by omega) (by unfold maxLen;omega) (by omega) (by simp) (w2.heap.size+1) (by simp) ?_;intro gg gA w3 aw aF df tB;have lK:=(aF.block E.t (by simp;omega) (fun e=>WW.out e.symm)).trans (Dg.out.cells.alloc (.cells #[.int .i64 n] 3));have y0:w3.cell? ⟨E.t,9,none⟩=some lv:=Bk.cell lK 9;have y1:=Bk.frozen lK 9;have y2:=Bk.lt lK)
  | fail)
 all_goals
  go_ret
  have lO:ah (E.t::(aaU (.slice A m c)).toList) w2 (w3.setCell ⟨E.t,9,none⟩ (.slice (some ⟨gg,0,none⟩) (m+1) gA)):=
   (((ah.refl _ w2).alloc (.cells #[.int .i64 n] 3)).grown aF (fun g hg=> .inl (by rw[hg];simp))).setCell (.inl (by simp)) _
  have hgt:gg≠E.t:=fun e=>by
   have:=bP aw lK (by decide);rw[e]at this;exact this rfl
  have kp:ah [E.t] w3 (w3.setCell ⟨E.t,9,none⟩ (.slice (some ⟨gg,0,none⟩) (m+1) gA)):=(ah.refl _ _).setCell (.inl (by simp)) _;have bm:=bd.grow (x':={ x with ax:=Tr.cY x.ax n none,loose:=x.loose++[n] }) (lv':= .slice (some ⟨gg,0,none⟩) (m+1) gA) (fv':=fv) Dg.out (hd':=[]) ?_ lO (fun b hb=> ?_) rfl rfl ?_ ?_ (fun g hg=> ?_) (fun g hg=> .inl hg) (.inr rfl) (Dg.out.ok.keep)
  ·obtain⟨S3,f3,FU,Kq,vZ,Gu,F0,k1,k2,k3⟩:=bm
   refine⟨rfl,S3,f3,FU,Kq,vZ,Gu,F0,k1,gW.out.trans k2,k3.mono ON.out⟩
  ·exact Bk.put lK 9 (.slice (some ⟨gg,0,none⟩) (m+1) gA)
  ·rcases IT.1 hb with rfl|hb
   ·exact .inl rfl
   ·rw[abz]at hb
    exact .inr (.inl (by rw[uN.out];exact hb))
  ·have h9:=kp.own aw (fun b hb hs=>by
    rw[By]at hs;subst hs;exact hgt (by simpa[aaU]using hb))
   show World.ownsRow _ 0 _ 1 _ (x.loose++[n]).length (ints (x.loose++[n]));rw[BY,lW,<-vY.out];exact h9
  ·have h8:=Dg.out.aM
   exact lO.own h8 (fun b hb hs=>by
    have cg:=Dg.out.nodup;unfold aB at cg;have n1:=abN.1 cg;have n2:=abN.1 n1.2;have n3:=aai.1 n2.2;rcases IT.1 hs with rfl|hs
    ·exact n1.1 (by simp[hb])
    ·rw[abz]at hs
     exact n3.2.2 b (by rw[uN.out];simp[hs]) b (by simp[hb]) rfl)
  ·have e:gg=g:=by simpa[aaU]using hg
   subst e;rcases df with h9|h9
   ·exact .inl (by rw[uN.out];exact h9)
   ·exact .inr (by omega)
end Go.Proofs.YtjbcbnemdhbhbaaGreatDoor
namespace Go.Proofs.YtjbcbnemdhbhbaaGreatDoor
open Go.Proofs.Tryz
open Go.RowKit Go.Maps Go.Sort Go.Shelf
theorem UP(m:Nat)(W:AI):aag prog 64 #[.map (some m)] W fun e w'=>e= .returned (.func (.func 124) #[] #[.pointer (some ⟨W.heap.size,0,none⟩)])/\w'=W.alloc (.cells #[.map (some m)] 100):=
 (afZ (n:=6)).1 (AnyZI.keys_in Tryz.keysB agk 6 trivial rfl (some m) W)
theorem LI{w:AI}{m nn:Nat}{V:Int->Option IS}(h:IMap prog 3 w m nn V)(hn:nn<=1000000000)(keys:List Int)(hk:keys.Pairwise (· < ·))(hm:∀x,x∈keys↔(V x).isSome=true):
  aag prog 63 #[.func (.func 124) #[] #[.pointer (some ⟨w.heap.size,0,none⟩)]] (w.alloc (.cells #[.map (some m)] 100))
   (Dq keys (w.heap.size+1) (w.alloc (.cells #[.map (some m)] 100))):=by
 obtain⟨D,au,ha⟩:=h;have gH:=au.lt;have cZ:=au.size_le;have V2:SeqGives agk 2 prog 124 #[.pointer (some ⟨w.heap.size,0,none⟩)] encZ (fun ss=>ss.Perm (intKeys D)) (Maps.size D) (w.alloc (.cells #[.map (some m)] 100)):=
  AnyZI.keys_gives (ρ :=Tryz.keysB_ren) { Tryz.keysB with } agk _ trivial rfl (by omega) w.heap.size m nn D _ (by simp) (by simp) (by
   obtain⟨es,clock,hb,Ft,hs,hD⟩:=au;exact⟨es,clock,(aeS _ _ m gH).trans hb,Ft,hs,hD⟩)
 have cS:=AnyZI.sorted_in Tryz.sortedA agk 5 trivial trivial trivial trivial rfl (by omega) (WB _) (enters_of func79 (by kernel_rfl) rfl) 124 #[.pointer (some ⟨w.heap.size,0,none⟩)] trivial (enters_of func124 (by kernel_rfl) rfl) _ _ (by unfold maxLen;omega) (by omega) _ V2
 change CallsIn _ _ prog 63 _ _ _ at cS
 have c2:=afZ.1 cS;refine c2.mono ?_;rintro e w' ⟨v,ss,rfl,hS,bc,IJ,hb⟩;have e1:(w.alloc (.cells #[.map (some m)] 100)).heap.size=w.heap.size+1:=by simp
 rw[e1]at bc hb;obtain⟨es,rfl,hp,gT⟩:=au.entries (int_keyed underlying3);have gU:keys.Perm (intKeys (.map es)):=by
  refine perm_intKeys hp ?_ (hk.imp (by intro a b h;omega)) (fun x=> ?_)
  ·intro p lR
   have h1:afp (.map es) p.1=true:=List.any_eq_true.2 ⟨p,lR,WideAt.sameKey_self (gT p lR)⟩;obtain⟨i,v,_,he⟩:=ha.2 _ h1;exact⟨i,he⟩
  ·rw[hm x,eN ha]
 have hs:ss.mergeSort (fun x y=>decide (x<=y))=keys:=Wj (hS.trans gU.symm) hk;rw[hs]at bc;have hlen:ss.length=keys.length:=by rw[(hS.trans gU.symm).length_eq]
 rw[hlen]at bc;exact⟨v,rfl,bc,hb⟩
theorem WC(m:Nat):AnyZ.SortsIn prog Tryz.sortedS_ren agk m:=
 ⟨fun jC off cap ss W hH mT cZ=>afZ.2 (AnyM.slices_Sort_string Tryz.sortS jC off cap ss W hH mT cZ),
  fun p cap W=>afZ.2 (AnyM.slices_Sort_string_none Tryz.sortS p cap W)⟩
theorem abD(m:Nat)(W:AI):aag prog 168 #[.map (some m)] W fun e w'=>e= .returned (.func (.func 228) #[] #[.pointer (some ⟨W.heap.size,0,none⟩)])/\w'=W.alloc (.cells #[.map (some m)] 101):=
 (afZ (n:=6)).1 (AnyZ.keys_in Tryz.keysS agk 6 trivial rfl (some m) W)
theorem rq{H:Type}{es:List (Lit×DataW H)}(hk:∀p∈es,∃x,p.1= .string x)(x:List UInt8):x∈strKeys (.map es)↔afp (.map es) (.string x)=true:=by
 rw[has_eq,List.any_eq_true];show x∈es.map (fun p=>strOf p.1)↔_;rw[abO];constructor
 ·rintro⟨p,lR,rfl⟩
  obtain⟨a,ha⟩:=hk p lR;exact⟨p,lR,by rw[ha];simp[Lit.sameKey,strOf]⟩
 ·rintro⟨p,lR,hs⟩
  obtain⟨a,ha⟩:=hk p lR;rw[ha]at hs;exact⟨p,lR,by rw[ha];simpa[Lit.sameKey,strOf]using hs⟩
def zB (V:ByteArray->Option IS) (nn:Nat) (B:Nat) (w:AI) (e:Ending) (w':AI):Prop:=
 ∃(v:IS) (names:List ByteArray),e= .returned v/\names.Nodup/\(∀n,n∈names↔(V n).isSome=true)/\names.length<=nn/\w'.ownsRow B 9 1 v names.length (names.map Value.string)/\Below B w w'
theorem Rk{w:AI}{m nn:Nat}{V:ByteArray->Option IS}(h:SMap prog 9 w m nn V)(hn:nn<=1000000000):
  aag prog 167 #[.func (.func 228) #[] #[.pointer (some ⟨w.heap.size,0,none⟩)]] (w.alloc (.cells #[.map (some m)] 101))
   (zB V nn (w.heap.size+1) (w.alloc (.cells #[.map (some m)] 101))):=by
 obtain⟨D,au,ha⟩:=h;have gH:=au.lt;have cZ:=au.size_le;have V2:SeqGives agk 2 prog 228 #[.pointer (some ⟨w.heap.size,0,none⟩)] encStr (fun ss=>ss.Perm (strKeys D)) (Maps.size D) (w.alloc (.cells #[.map (some m)] 101)):=
  AnyZ.keys_gives (ρ :=Tryz.keysS_ren) { Tryz.keysS with } agk _ trivial rfl (by omega) w.heap.size m nn D _ (by simp) (by simp) (by
   obtain⟨es,clock,hb,Ft,hs,hD⟩:=au;exact⟨es,clock,(aeS _ _ m gH).trans hb,Ft,hs,hD⟩)
 have cS:=AnyZ.sorted_in Tryz.sortedS agk 5 trivial trivial trivial trivial rfl (by omega) (WC _) (enters_of func227 (by kernel_rfl) rfl) 228 #[.pointer (some ⟨w.heap.size,0,none⟩)] trivial (enters_of func228 (by kernel_rfl) rfl) _ _ (by unfold maxLen;omega) (by omega) _ V2
 change CallsIn _ _ prog 167 _ _ _ at cS
 have c2:=afZ.1 cS;refine c2.mono ?_;rintro e w' ⟨v,ss,rfl,hS,bc,IJ,hb⟩;have e1:(w.alloc (.cells #[.map (some m)] 101)).heap.size=w.heap.size+1:=by simp
 rw[e1]at bc hb;obtain⟨es,rfl,hp,gT⟩:=au.entries (string_keyed underlying9);obtain⟨es',hD',hko⟩:=au.keysOf;obtain rfl:es=es':=by simpa using hD'
 have jb:∀p∈es,∃x,p.1= .string x:=fun p hp=>by
  obtain⟨v,hv⟩:=hko p hp;obtain⟨x,_,hx,_⟩:=Maps.keyOf_str underlying9 hv;exact⟨x,hx⟩
 have gU:(ss.mergeSort (fun x y=>decide (x<=y))).Perm (strKeys (.map es)):=(List.mergeSort_perm _ _).trans hS;have hlen:(strKeys (.map es)).length=Maps.size (.map es):=by
  show (es.map _).length=_;rw[aae];rfl
 refine⟨v,(ss.mergeSort (fun x y=>decide (x<=y))).map (fun l=>⟨l.toArray⟩),rfl,?_,fun n=> ?_,?_,?_,hb⟩
 ·unfold List.Nodup
  rw[adT];have cg:(strKeys (.map es)).Nodup:=by
   show (es.map fun p=>strOf p.1).Nodup;refine adT.2 (hp.imp_of_mem fun {p q} lR hq' bL e=>bL ?_);obtain⟨a,ha⟩:=jb p lR;obtain⟨b,hb⟩:=jb q hq';rw[ha,hb]at e |-;exact congrArg _ e
  refine(gU.nodup_iff.2 cg).imp fun {a b} oL he=>oL ?_;injection he with he;have:=congrArg Array.toList he;simpa using this
 ·rw[abO,<-ir ha]
  constructor
  ·rintro⟨l,hl,rfl⟩
   have:=(rq jb l).1 (gU.mem_iff.1 hl);simpa using this
  ·intro hh
   refine⟨n.data.toList,gU.mem_iff.2 ((rq jb _).2 hh),?_⟩;obtain⟨⟨l⟩⟩:=n;rfl
 ·rw[aae,gU.length_eq,hlen];exact cZ
 ·rw[aae,List.map_map]
  have h2:ss.length=(ss.mergeSort (fun x y=>decide (x<=y))).length:=by rw[gU.length_eq,hS.length_eq]
  rw[h2]at bc;exact bc
end Go.Proofs.YtjbcbnemdhbhbaaGreatDoor
