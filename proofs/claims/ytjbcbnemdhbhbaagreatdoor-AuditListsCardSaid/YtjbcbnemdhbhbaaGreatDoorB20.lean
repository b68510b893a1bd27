import Derived.Test.YtjbcbnemdhbhbaaGreatDoorB15
import Derived.Test.YtjbcbnemdhbhbaaGreatDoorB2
import Derived.Deep.RegionHeld3
import Derived.Laws.Tables
import Derived.Test.YtjbcbnemdhbhbaaGreatDoorB1
import Derived.OrdersHeld
set_option maxRecDepth 100000
set_option linter.unusedVariables false
set_option linter.unusedSimpArgs false
set_option maxHeartbeats 40000000
open Go renaming Value→IS,World→AI,wpAnyH_take→afl
open Go.Act renaming put→agJ
open Go.Ground renaming data→aeK,phase→aes
open Go.Lib renaming hid→sh
open Go.Operand renaming tmp→ael
open Go.RowKit.Below renaming refl→IN
open Go.Value renaming ownBlock→aaU
open Go.World.ownsRow renaming lt→abr
open List renaming mem_cons→IT,setIfInBounds_toArray→acg,set_cons_succ→acT,set_cons_zero→acQ
open Option renaming mem_toList→abz
open Or renaming inl→agN
namespace Go.Proofs.YtjbcbnemdhbhbaaGreatDoor
open Go.Proofs.Tryz
open Go.RowKit
theorem qB{P:Program}(w:AI)(g o:Nat)(t ty:TypeId)(cs part:Array IS)(fr:Nat×Nat)(d:TypeDesc)(hg:w.heap[g]? =some (.cells cs t fr))(hp:∀(j:Nat) (v:IS),part[j]? =some v->cs[o+j]? =some v)
  (hu:P.underlying ty=some d) (hd:(match d with| .struct _| .array _ _=>true|_=>false)=true) (hi:(P.info? ty).map (·.size)=some part.size):
  (loadVar ty ⟨g,o,none⟩).run P w= .ok (.agg part) w:=by
 have hl:(loadCells ⟨g,o,none⟩ part.toList.length).run P w= .ok part.toList.toArray w:=
  run_loadCells_list (P:=P) w ⟨g,o,none⟩ part.toList (fun j v hv=>by
   have Zs:(⟨g,o,none⟩:Addr).add j=⟨g,o+j,none⟩:=bI g o j;rw[Zs,cell_of_row w g (o+j) cs t fr hg];exact hp j v (by simpa using hv))
 cases hq:P.info? ty with
 | none=>simp[hq]at hi
 | some i=>
  have hs:i.size=part.size:=by simpa[hq]using hi
  have aeI:(isAgg ty).run P w= .ok true w:=by
   unfold isAgg;rw[Sem.run_bind,run_underlying hu w];cases d<;>simp_all
  simp only[Array.length_toList,Array.toArray_toList]at hl;simp[loadVar,Sem.run_bind,aeI,sizeOf,typeInfo,hq,hs,hl]
theorem s7{P:Program}(ev:Operand->IS)(op:Oper)(ty:TypeId)(x:Operand){w:AI}{g o:Nat}{t:TypeId}{cs part:Array IS}{fr:Nat×Nat}{d:TypeDesc}(ho:op.op= .load ty x)(hx:ev x= .pointer (some ⟨g,o,none⟩))(hg:w.heap[g]? =some (.cells cs t fr))(hp:∀(j:Nat) (v:IS),part[j]? =some v->cs[o+j]? =some v)
  (hu:P.underlying ty=some d) (hd:(match d with| .struct _| .array _ _=>true|_=>false)=true) (hi:(P.info? ty).map (·.size)=some part.size):(execOp ev op).run P w= .ok (.value (.agg part)) w:=by
 unfold execOp;simp only[ho,hx,Instr.loadAt,Instr.sureAddr,Sem.run_bind,Sem.run_pure,Result.andThen_ok,qB w g o t ty cs part fr d hg hp hu hd hi]
theorem Ix(A:Option Addr)(c:Nat)(l:List (Nat×Nat)):∀(j:Nat) (v:IS),(ee l).toArray[j]? =some v->(ck A c l)[1+j]? =some v:=fun j v h=>by
 rw[Nat.add_comm];simpa[ck]using h
theorem Lr(A:Option Addr)(c:Nat)(l:List (Nat×Nat)):prog.built 165 [(0,.slice A l.length c),(1,.agg (ee l).toArray)]=some (ck A c l):=by kernel_rfl
section
variable {P:Program} {ops:Array Oper} {md:Region.Mode} {S:AI->Prop}
end
def Kx (l:List (Nat×Nat)) (w:AI) (e:Ending) (w':AI):Prop:=∃f' S',e= .returned (.pointer (some ⟨f',0,none⟩))/\rK w' f' S' l/\Below w.heap.size w w'/\(∀b∈S',w.heap.size<=b)
theorem vg(ev:Operand->IS)(op:Oper)(x y:Operand)(A:Option Addr)(c:Nat)(l:List (Nat×Nat))(w:AI)(ho:op.op= .build 165 #[(0,x),(1,y)])(hx:ev x= .slice A l.length c)(hy:ev y= .agg (ee l).toArray):(execOp ev op).run prog w= .ok (.value (.agg (ck A c l))) w:=by
 unfold execOp;simp only[ho,List.map_toArray,List.map_cons,List.map_nil,hx,hy];have h:=run_build w 165 #[(0,.slice A l.length c),(1,.agg (ee l).toArray)] (ck A c l) (Lr A c l);simp only[Sem.run_bind,h,Result.andThen_ok,Sem.run_pure]
theorem wD{w:AI}{f:Nat}{S:List Nat}{l:List (Nat×Nat)}(h:FL w f S l)(hl:l.length<=10000):
  Calls prog 44 #[.pointer (some ⟨f,0,none⟩)] w (Kx l w):=by
 obtain⟨⟨A,c,h1,h2,h3,h4,h5,h8⟩,h6,h7⟩:=h;have H1:=sh h1;have HC:=sh (ta (w:=w.drew) (by exact h2) h3 h4 hl h8);have bH:=sh fun(W:AI) (hW:Below w.heap.size w W)=>(show W.heap[f]? =some (.cells (ck A c l) 165 (0,0)) from af h1 hW);have HSI:=sh (show (prog.info? 163).map (·.size)=some (ee l).toArray.size by rw[List.size_toArray,ee,List.length_map,Fr.L9];kernel_rfl);obtain⟨n,hn⟩:∃n,n=l.length:=⟨_,rfl⟩;have HN:=sh hn;rw[<-hn]at HC;clear h1 h2 h3 h4 h5 h6 h7 h8 hl hn;go_enter func44,ntmps44
 go_wp2_with fail
 refine wp_region_held_drew (S:=fun W=>W.heap[f]? =some (.cells (ck A c l) 165 (0,0))) (by kernel_rfl) (bH.out _ (IN _ _).drew) (fun ja=> ?_);refine afl (i:=0) (oi:={ dst:=some 5,op:=Op.move (ael 0),type:=97,pos:= "free.go:87",after:= #[],guard:=none }) (v:= ?_) rfl (by kernel_rfl) (by kernel_rfl) (by kernel_rfl) (fun _ _ _ h=>h) (agN ⟨by rfl,?_⟩) ja ?_
 rotate_left
 ·intro w5 su
  have y0:w5.cell? ⟨f,0,none⟩=some (.slice A n c):=by rw[HN.out];exact(Bk.cell su 0).trans (bu A c l)
  have y1:=Bk.lt su;go_simp
  (try with_reducible rfl)
 try simp only[agJ,acg,acQ,acT]
 refine afl (i:=1) (oi:={ dst:=some 6,op:=Op.nilCheck (ael 5),type:=0,pos:= "free.go:87",after:= #[{ on:=0,ground:=aeK }],guard:=none }) (v:= ?_) rfl (by kernel_rfl) (by kernel_rfl) (by kernel_rfl) (fun _ _ _ h=>h) (agN ⟨by rfl,?_⟩) ja ?_
 rotate_left
 ·intro w5 su
  have y0:w5.cell? ⟨f,0,none⟩=some (.slice A n c):=by rw[HN.out];exact(Bk.cell su 0).trans (bu A c l)
  have y1:=Bk.lt su;go_simp
  (try with_reducible rfl)
 try simp only[agJ,acg,acQ,acT]
 refine afl (i:=2) (oi:={ dst:=some 7,op:=Op.fieldAddr 165 (ael 6) 0,type:=0,pos:= "free.go:87",after:= #[{ on:=1,ground:=aeK }],guard:=none }) (v:= ?_) rfl (by kernel_rfl) (by kernel_rfl) (by kernel_rfl) (fun _ _ _ h=>h) (agN ⟨by rfl,?_⟩) ja ?_
 rotate_left
 ·intro w5 su
  have y0:w5.cell? ⟨f,0,none⟩=some (.slice A n c):=by rw[HN.out];exact(Bk.cell su 0).trans (bu A c l)
  have y1:=Bk.lt su;go_simp
  (try with_reducible rfl)
 try simp only[agJ,acg,acQ,acT]
 refine afl (i:=3) (oi:={ dst:=some 8,op:=Op.load 49 (ael 7),type:=49,pos:= "free.go:87",after:= #[{ on:=2,ground:=aeK }],guard:=none }) (v:= ?_) rfl (by kernel_rfl) (by kernel_rfl) (by kernel_rfl) (fun _ _ _ h=>h) (agN ⟨by rfl,?_⟩) ja ?_
 rotate_left
 ·intro w5 su
  have y0:w5.cell? ⟨f,0,none⟩=some (.slice A n c):=by rw[HN.out];exact(Bk.cell su 0).trans (bu A c l)
  have y1:=Bk.lt su;go_simp
  (try with_reducible rfl)
 try simp only[agJ,acg,acQ,acT]
 refine afl (i:=5) (oi:={ dst:=some 10,op:=Op.move (ael 0),type:=97,pos:= "free.go:87",after:= #[],guard:=none }) (v:= ?_) rfl (by kernel_rfl) (by kernel_rfl) (by kernel_rfl) (fun _ _ _ h=>h) (agN ⟨by rfl,?_⟩) ja ?_
 rotate_left
 ·intro w5 su
  have y0:w5.cell? ⟨f,0,none⟩=some (.slice A n c):=by rw[HN.out];exact(Bk.cell su 0).trans (bu A c l)
  have y1:=Bk.lt su;go_simp
  (try with_reducible rfl)
 try simp only[agJ,acg,acQ,acT]
 refine afl (i:=6) (oi:={ dst:=some 11,op:=Op.nilCheck (ael 10),type:=0,pos:= "free.go:87",after:= #[{ on:=5,ground:=aeK }],guard:=none }) (v:= ?_) rfl (by kernel_rfl) (by kernel_rfl) (by kernel_rfl) (fun _ _ _ h=>h) (agN ⟨by rfl,?_⟩) ja ?_
 rotate_left
 ·intro w5 su
  have y0:w5.cell? ⟨f,0,none⟩=some (.slice A n c):=by rw[HN.out];exact(Bk.cell su 0).trans (bu A c l)
  have y1:=Bk.lt su;go_simp
  (try with_reducible rfl)
 try simp only[agJ,acg,acQ,acT]
 refine afl (i:=7) (oi:={ dst:=some 12,op:=Op.fieldAddr 165 (ael 11) 1,type:=0,pos:= "free.go:87",after:= #[{ on:=6,ground:=aeK }],guard:=none }) (v:= ?_) rfl (by kernel_rfl) (by kernel_rfl) (by kernel_rfl) (fun _ _ _ h=>h) (agN ⟨by rfl,?_⟩) ja ?_
 rotate_left
 ·intro w5 su
  have y0:w5.cell? ⟨f,0,none⟩=some (.slice A n c):=by rw[HN.out];exact(Bk.cell su 0).trans (bu A c l)
  have y1:=Bk.lt su;go_simp
  (try with_reducible rfl)
 try simp only[agJ,acg,acQ,acT]
 refine afl (i:=8) (oi:={ dst:=some 13,op:=Op.load 163 (ael 12),type:=163,pos:= "free.go:87",after:= #[{ on:=7,ground:=aeK }],guard:=none }) (v:=(.agg (ee l).toArray)) rfl (by kernel_rfl) (by kernel_rfl) (by kernel_rfl) (fun _ _ _ h=>h) (agN ⟨by rfl,?_⟩) ja ?_
 ·intro w5 su
  exact s7 _ _ _ _ rfl rfl su (Ix A c l) underlying163 rfl HSI.out
 try simp only[agJ,acg,acQ,acT]
 refine wpAnyH_ready (rs:=[4]) (by kernel_rfl) (by simp) ?_;refine AllReadyH.cons (o:={ dst:=some 9,op:=Op.call { callee:=Callee.value (Operand.func 102),args:= #[ael 8],argTypes:= #[49] },type:=49,pos:= "free.go:87",after:= #[{ on:=3,ground:=aeK }],guard:=none }) rfl (fun K hK=> ?_) AllReadyH.nil;go_simp
 (go_at_call 102)
 (with_reducible refine HC.out.mono ?_)
 rintro e w1 ⟨ar,A3,c3,rfl,Gc⟩;have bh:=sh (show Below w.heap.size w w1 from (IN _ w).drew.trans ar);have jZ:=sh Gc;clear ar Gc;go_wp2_with fail
 refine hK _ _ (bH.out _ bh.out) (fun tq=> ?_);clear hK K ja;have ja:=tq;clear tq
 try simp only[agJ,acg,acQ,acT]
 refine afl (i:=9) (oi:={ dst:=some 14,op:=Op.build 165 #[(0,ael 9),(1,ael 13)],type:=165,pos:= "free.go:87",after:= #[{ on:=4,ground:=aeK },{ on:=8,ground:=aeK }],guard:=none }) (v:=(.agg (ck A3 c3 l))) rfl (by kernel_rfl) (by kernel_rfl) (by kernel_rfl) (fun _ _ _ h=>h) (agN ⟨by rfl,?_⟩) ja ?_
 ·intro w5 su
  exact vg _ _ _ _ A3 c3 l w5 rfl rfl rfl
 try simp only[agJ,acg,acQ,acT]
 refine wpAnyH_ready (rs:=[10]) (by kernel_rfl) (by simp) ?_;refine AllReadyH.cons (o:={ dst:=some 15,op:=Op.box 165 (ael 14),type:=97,pos:= "free.go:87",after:= #[{ on:=9,ground:=aeK }],guard:=none }) rfl (fun K hK=> ?_) AllReadyH.nil;go_simp
 refine hK _ _ (bH.out _ (bh.out.alloc bh.out.size _)) (fun tq=> ?_);clear hK K ja;have ja:=tq;clear tq
 try simp only[agJ,acg,acQ,acT]
 refine afl (i:=11) (oi:={ dst:=some 2,op:=Op.assign (ael 15),type:=97,pos:= "free.go:87",after:= #[{ on:=10,ground:=aeK },{ on:=4,ground:=Ground.chain },{ on:=0,ground:=aes },{ on:=1,ground:=aes },{ on:=2,ground:=aes },{ on:=3,ground:=aes },{ on:=4,ground:=aes },{ on:=5,ground:=aes },{ on:=6,ground:=aes },{ on:=7,ground:=aes },{ on:=8,ground:=aes },{ on:=9,ground:=aes },{ on:=10,ground:=aes }],guard:=none }) (v:= ?_) rfl (by kernel_rfl) (by kernel_rfl) (by kernel_rfl) (fun _ _ _ h=>h) (agN ⟨by rfl,?_⟩) ja ?_
 rotate_left
 ·intro w5 su
  go_simp
  (try with_reducible rfl)
 try simp only[agJ,acg,acQ,acT]
 refine wpAnyH_done (by kernel_rfl) ?_ _
 try go_simp
 go_wp2_with fail
 go_ret
 refine⟨w1.heap.size,w1.heap.size::(aaU (.slice A3 l.length c3)).toList,rfl,⟨⟨A3,c3,Bk.new w1 _ _,?_,fun a ha=> ?_⟩,by simp,fun b hb=> ?_⟩,bh.out.alloc bh.out.size _,fun b hb=> ?_⟩
 ·exact((ah.refl [] w1).alloc _).own (l7 jZ.out (Nat.zero_le _)) (by simp)
 ·have h8:=(jZ.out.row).2.2.2.2.1 a ha
  rw[ha,h8.1];simp[aaU]
 ·rcases IT.1 hb with rfl|hb
  ·simp
  ·rw[abz]at hb
   have:=(abr jZ.out b hb).2;simp;omega
 ·rcases IT.1 hb with rfl|hb
  ·exact bh.out.size
  ·rw[abz]at hb
   exact(abr jZ.out b hb).1
end Go.Proofs.YtjbcbnemdhbhbaaGreatDoor
