import Derived.Test.YtjbcbnemdhbhbaaGreatDoorA23
import Derived.Test.YtjbcbnemdhbhbaaGreatDoorA3
import Derived.Deep.RegionHeld3
import Derived.Laws.Tables
import Derived.Test.YtjbcbnemdhbhbaaGreatDoorA1
import Derived.OrdersHeld
set_option maxRecDepth 100000
set_option linter.unusedVariables false
set_option linter.unusedSimpArgs false
set_option maxHeartbeats 40000000
open Go renaming Value→No,World→AI,wpAnyH_take→afr
open Go.Act renaming put→agQ
open Go.Ground renaming data→afa,phase→aet
open Go.Lib renaming hid→sh
open Go.Operand renaming tmp→aem
open Go.RowKit.Below renaming refl→BY
open Go.Value renaming ownBlock→aaT
open Go.World.ownsRow renaming lt→abq
open List renaming mem_cons→OF,setIfInBounds_toArray→acf,set_cons_succ→acO,set_cons_zero→acM
open Option renaming mem_toList→abG
open Or renaming inl→agU
namespace Go.Proofs.YtjbcbnemdhbhbaaGreatDoor
open Go.Proofs.Tryz
open Go.RowKit
theorem qF{P:Program}(w:AI)(g o:Nat)(t ty:TypeId)(cs part:Array No)(fr:Nat×Nat)(d:TypeDesc)(hg:w.heap[g]? =some (.cells cs t fr))(hp:∀(j:Nat) (v:No),part[j]? =some v->cs[o+j]? =some v)
  (hu:P.underlying ty=some d) (hd:(match d with| .struct _| .array _ _=>true|_=>false)=true) (hi:(P.info? ty).map (·.size)=some part.size):
  (loadVar ty ⟨g,o,none⟩).run P w= .ok (.agg part) w:=by
 have hl:(loadCells ⟨g,o,none⟩ part.toList.length).run P w= .ok part.toList.toArray w:=
  run_loadCells_list (P:=P) w ⟨g,o,none⟩ part.toList (fun j v hv=>by
   have Zu:(⟨g,o,none⟩:Addr).add j=⟨g,o+j,none⟩:=bJ g o j;rw[Zu,cell_of_row w g (o+j) cs t fr hg];exact hp j v (by simpa using hv))
 cases hq:P.info? ty with
 | none=>simp[hq]at hi
 | some i=>
  have hs:i.size=part.size:=by simpa[hq]using hi
  have aeA:(isAgg ty).run P w= .ok true w:=by
   unfold isAgg;rw[Sem.run_bind,run_underlying hu w];cases d<;>simp_all
  simp only[Array.length_toList,Array.toArray_toList]at hl;simp[loadVar,Sem.run_bind,aeA,sizeOf,typeInfo,hq,hs,hl]
theorem tU{P:Program}(ev:Operand->No)(op:Oper)(ty:TypeId)(x:Operand){w:AI}{g o:Nat}{t:TypeId}{cs part:Array No}{fr:Nat×Nat}{d:TypeDesc}(ho:op.op= .load ty x)(hx:ev x= .pointer (some ⟨g,o,none⟩))(hg:w.heap[g]? =some (.cells cs t fr))(hp:∀(j:Nat) (v:No),part[j]? =some v->cs[o+j]? =some v)
  (hu:P.underlying ty=some d) (hd:(match d with| .struct _| .array _ _=>true|_=>false)=true) (hi:(P.info? ty).map (·.size)=some part.size):(execOp ev op).run P w= .ok (.value (.agg part)) w:=by
 unfold execOp;simp only[ho,hx,Instr.loadAt,Instr.sureAddr,Sem.run_bind,Sem.run_pure,Result.andThen_ok,qF w g o t ty cs part fr d hg hp hu hd hi]
theorem IW(A:Option Addr)(c:Nat)(l:List (Nat×Nat)):∀(j:Nat) (v:No),(eg l).toArray[j]? =some v->(bY A c l)[1+j]? =some v:=fun j v h=>by
 rw[Nat.add_comm];simpa[bY]using h
theorem LA(A:Option Addr)(c:Nat)(l:List (Nat×Nat)):prog.built 165 [(0,.slice A l.length c),(1,.agg (eg l).toArray)]=some (bY A c l):=by kernel_rfl
section
variable {P:Program} {ops:Array Oper} {md:Region.Mode} {S:AI->Prop}
end
def KK (l:List (Nat×Nat)) (w:AI) (e:Ending) (w':AI):Prop:=∃f' S',e= .returned (.pointer (some ⟨f',0,none⟩))/\rT w' f' S' l/\Below w.heap.size w w'/\(∀b∈S',w.heap.size<=b)
theorem vU(ev:Operand->No)(op:Oper)(x y:Operand)(A:Option Addr)(c:Nat)(l:List (Nat×Nat))(w:AI)(ho:op.op= .build 165 #[(0,x),(1,y)])(hx:ev x= .slice A l.length c)(hy:ev y= .agg (eg l).toArray):(execOp ev op).run prog w= .ok (.value (.agg (bY A c l))) w:=by
 unfold execOp;simp only[ho,List.map_toArray,List.map_cons,List.map_nil,hx,hy];have h:=run_build w 165 #[(0,.slice A l.length c),(1,.agg (eg l).toArray)] (bY A c l) (LA A c l);simp only[Sem.run_bind,h,Result.andThen_ok,Sem.run_pure]
theorem xw{w:AI}{f:Nat}{S:List Nat}{l:List (Nat×Nat)}(h:FL w f S l)(hl:l.length<=10000):
  Calls prog 44 #[.pointer (some ⟨f,0,none⟩)] w (KK l w):=by
 obtain⟨⟨A,c,h1,h2,h3,h4,h5,h8⟩,h6,h7⟩:=h;have H1:=sh h1;have HC:=sh (tV (w:=w.drew) (by exact h2) h3 h4 hl h8);have bD:=sh fun(W:AI) (hW:Below w.heap.size w W)=>(show W.heap[f]? =some (.cells (bY A c l) 165 (0,0)) from ae h1 hW);have HSI:=sh (show (prog.info? 163).map (·.size)=some (eg l).toArray.size by rw[List.size_toArray,eg,List.length_map,Fr.Mj];kernel_rfl);obtain⟨n,hn⟩:∃n,n=l.length:=⟨_,rfl⟩;have HN:=sh hn;rw[<-hn]at HC;clear h1 h2 h3 h4 h5 h6 h7 h8 hl hn;go_enter func44,ntmps44
 go_wp2_with fail
 refine wp_region_held_drew (S:=fun W=>W.heap[f]? =some (.cells (bY A c l) 165 (0,0))) (by kernel_rfl) (bD.out _ (BY _ _).drew) (fun je=> ?_);refine afr (i:=0) (oi:={ dst:=some 5,op:=Op.move (aem 0),type:=97,pos:= "free.go:87",after:= #[],guard:=none }) (v:= ?_) rfl (by kernel_rfl) (by kernel_rfl) (by kernel_rfl) (fun _ _ _ h=>h) (agU ⟨by rfl,?_⟩) je ?_
 rotate_left
 ·intro w5 sR
  have y0:w5.cell? ⟨f,0,none⟩=some (.slice A n c):=by rw[HN.out];exact(Bk.cell sR 0).trans (bu A c l)
  have y1:=Bk.lt sR;go_simp
  (try with_reducible rfl)
 try simp only[agQ,acf,acM,acO]
 refine afr (i:=1) (oi:={ dst:=some 6,op:=Op.nilCheck (aem 5),type:=0,pos:= "free.go:87",after:= #[{ on:=0,ground:=afa }],guard:=none }) (v:= ?_) rfl (by kernel_rfl) (by kernel_rfl) (by kernel_rfl) (fun _ _ _ h=>h) (agU ⟨by rfl,?_⟩) je ?_
 rotate_left
 ·intro w5 sR
  have y0:w5.cell? ⟨f,0,none⟩=some (.slice A n c):=by rw[HN.out];exact(Bk.cell sR 0).trans (bu A c l)
  have y1:=Bk.lt sR;go_simp
  (try with_reducible rfl)
 try simp only[agQ,acf,acM,acO]
 refine afr (i:=2) (oi:={ dst:=some 7,op:=Op.fieldAddr 165 (aem 6) 0,type:=0,pos:= "free.go:87",after:= #[{ on:=1,ground:=afa }],guard:=none }) (v:= ?_) rfl (by kernel_rfl) (by kernel_rfl) (by kernel_rfl) (fun _ _ _ h=>h) (agU ⟨by rfl,?_⟩) je ?_
 rotate_left
 ·intro w5 sR
  have y0:w5.cell? ⟨f,0,none⟩=some (.slice A n c):=by rw[HN.out];exact(Bk.cell sR 0).trans (bu A c l)
  have y1:=Bk.lt sR;go_simp
  (try with_reducible rfl)
 try simp only[agQ,acf,acM,acO]
 refine afr (i:=3) (oi:={ dst:=some 8,op:=Op.load 49 (aem 7),type:=49,pos:= "free.go:87",after:= #[{ on:=2,ground:=afa }],guard:=none }) (v:= ?_) rfl (by kernel_rfl) (by kernel_rfl) (by kernel_rfl) (fun _ _ _ h=>h) (agU ⟨by rfl,?_⟩) je ?_
 rotate_left
 ·intro w5 sR
  have y0:w5.cell? ⟨f,0,none⟩=some (.slice A n c):=by rw[HN.out];exact(Bk.cell sR 0).trans (bu A c l)
  have y1:=Bk.lt sR;go_simp
  (try with_reducible rfl)
 try simp only[agQ,acf,acM,acO]
 refine afr (i:=5) (oi:={ dst:=some 10,op:=Op.move (aem 0),type:=97,pos:= "free.go:87",after:= #[],guard:=none }) (v:= ?_) rfl (by kernel_rfl) (by kernel_rfl) (by kernel_rfl) (fun _ _ _ h=>h) (agU ⟨by rfl,?_⟩) je ?_
 rotate_left
 ·intro w5 sR
  have y0:w5.cell? ⟨f,0,none⟩=some (.slice A n c):=by rw[HN.out];exact(Bk.cell sR 0).trans (bu A c l)
  have y1:=Bk.lt sR;go_simp
  (try with_reducible rfl)
 try simp only[agQ,acf,acM,acO]
 refine afr (i:=6) (oi:={ dst:=some 11,op:=Op.nilCheck (aem 10),type:=0,pos:= "free.go:87",after:= #[{ on:=5,ground:=afa }],guard:=none }) (v:= ?_) rfl (by kernel_rfl) (by kernel_rfl) (by kernel_rfl) (fun _ _ _ h=>h) (agU ⟨by rfl,?_⟩) je ?_
 rotate_left
 ·intro w5 sR
  have y0:w5.cell? ⟨f,0,none⟩=some (.slice A n c):=by rw[HN.out];exact(Bk.cell sR 0).trans (bu A c l)
  have y1:=Bk.lt sR;go_simp
  (try with_reducible rfl)
 try simp only[agQ,acf,acM,acO]
 refine afr (i:=7) (oi:={ dst:=some 12,op:=Op.fieldAddr 165 (aem 11) 1,type:=0,pos:= "free.go:87",after:= #[{ on:=6,ground:=afa }],guard:=none }) (v:= ?_) rfl (by kernel_rfl) (by kernel_rfl) (by kernel_rfl) (fun _ _ _ h=>h) (agU ⟨by rfl,?_⟩) je ?_
 rotate_left
 ·intro w5 sR
  have y0:w5.cell? ⟨f,0,none⟩=some (.slice A n c):=by rw[HN.out];exact(Bk.cell sR 0).trans (bu A c l)
  have y1:=Bk.lt sR;go_simp
  (try with_reducible rfl)
 try simp only[agQ,acf,acM,acO]
 refine afr (i:=8) (oi:={ dst:=some 13,op:=Op.load 163 (aem 12),type:=163,pos:= "free.go:87",after:= #[{ on:=7,ground:=afa }],guard:=none }) (v:=(.agg (eg l).toArray)) rfl (by kernel_rfl) (by kernel_rfl) (by kernel_rfl) (fun _ _ _ h=>h) (agU ⟨by rfl,?_⟩) je ?_
 ·intro w5 sR
  exact tU _ _ _ _ rfl rfl sR (IW A c l) underlying163 rfl HSI.out
 try simp only[agQ,acf,acM,acO]
 refine wpAnyH_ready (rs:=[4]) (by kernel_rfl) (by simp) ?_;refine AllReadyH.cons (o:={ dst:=some 9,op:=Op.call { callee:=Callee.value (Operand.func 102),args:= #[aem 8],argTypes:= #[49] },type:=49,pos:= "free.go:87",after:= #[{ on:=3,ground:=afa }],guard:=none }) rfl (fun K hK=> ?_) AllReadyH.nil;go_simp
 (go_at_call 102)
 (with_reducible refine HC.out.mono ?_)
 rintro e w1 ⟨ar,A3,c3,rfl,GG⟩;have bh:=sh (show Below w.heap.size w w1 from (BY _ w).drew.trans ar);have im:=sh GG;clear ar GG;go_wp2_with fail
 refine hK _ _ (bD.out _ bh.out) (fun ug=> ?_);clear hK K je;have je:=ug;clear ug
 try simp only[agQ,acf,acM,acO]
 refine afr (i:=9) (oi:={ dst:=some 14,op:=Op.build 165 #[(0,aem 9),(1,aem 13)],type:=165,pos:= "free.go:87",after:= #[{ on:=4,ground:=afa },{ on:=8,ground:=afa }],guard:=none }) (v:=(.agg (bY A3 c3 l))) rfl (by kernel_rfl) (by kernel_rfl) (by kernel_rfl) (fun _ _ _ h=>h) (agU ⟨by rfl,?_⟩) je ?_
 ·intro w5 sR
  exact vU _ _ _ _ A3 c3 l w5 rfl rfl rfl
 try simp only[agQ,acf,acM,acO]
 refine wpAnyH_ready (rs:=[10]) (by kernel_rfl) (by simp) ?_;refine AllReadyH.cons (o:={ dst:=some 15,op:=Op.box 165 (aem 14),type:=97,pos:= "free.go:87",after:= #[{ on:=9,ground:=afa }],guard:=none }) rfl (fun K hK=> ?_) AllReadyH.nil;go_simp
 refine hK _ _ (bD.out _ (bh.out.alloc bh.out.size _)) (fun ug=> ?_);clear hK K je;have je:=ug;clear ug
 try simp only[agQ,acf,acM,acO]
 refine afr (i:=11) (oi:={ dst:=some 2,op:=Op.assign (aem 15),type:=97,pos:= "free.go:87",after:= #[{ on:=10,ground:=afa },{ on:=4,ground:=Ground.chain },{ on:=0,ground:=aet },{ on:=1,ground:=aet },{ on:=2,ground:=aet },{ on:=3,ground:=aet },{ on:=4,ground:=aet },{ on:=5,ground:=aet },{ on:=6,ground:=aet },{ on:=7,ground:=aet },{ on:=8,ground:=aet },{ on:=9,ground:=aet },{ on:=10,ground:=aet }],guard:=none }) (v:= ?_) rfl (by kernel_rfl) (by kernel_rfl) (by kernel_rfl) (fun _ _ _ h=>h) (agU ⟨by rfl,?_⟩) je ?_
 rotate_left
 ·intro w5 sR
  go_simp
  (try with_reducible rfl)
 try simp only[agQ,acf,acM,acO]
 refine wpAnyH_done (by kernel_rfl) ?_ _
 try go_simp
 go_wp2_with fail
 go_ret
 refine⟨w1.heap.size,w1.heap.size::(aaT (.slice A3 l.length c3)).toList,rfl,⟨⟨A3,c3,Bk.new w1 _ _,?_,fun a ha=> ?_⟩,by simp,fun b hb=> ?_⟩,bh.out.alloc bh.out.size _,fun b hb=> ?_⟩
 ·exact((ah.refl [] w1).alloc _).own (me im.out (Nat.zero_le _)) (by simp)
 ·have h8:=(im.out.row).2.2.2.2.1 a ha
  rw[ha,h8.1];simp[aaT]
 ·rcases OF.1 hb with rfl|hb
  ·simp
  ·rw[abG]at hb
   have:=(abq im.out b hb).2;simp;omega
 ·rcases OF.1 hb with rfl|hb
  ·exact bh.out.size
  ·rw[abG]at hb
   exact(abq im.out b hb).1
end Go.Proofs.YtjbcbnemdhbhbaaGreatDoor
