import Derived.Test.YtbiglfpikfjbpaaGreatDoorM10
import Derived.Test.YtbiglfpikfjbpaaGreatDoorM11
import Derived.Deep.RegionHeld3
import Derived.Deep.MidRow
import Derived.Test.YtbiglfpikfjbpaaGreatDoorM5
import Derived.Test.YtbiglfpikfjbpaaGreatDoorM6
import Derived.Test.YtbiglfpikfjbpaaGreatDoorM3
import Derived.Defers
import Derived.Recover
import Derived.Test.YtbiglfpikfjbpaaGreatDoorM9
namespace Go.Proofs.YtbiglfpikfjbpaaGreatDoor
open Go.RowKit
open Go.PlainAid
set_option maxRecDepth 100000
set_option linter.unusedVariables false
set_option linter.unusedSimpArgs false
set_option maxHeartbeats 40000000
def RetT (t : Tl) (w : World) (e : Ending) (w' : World) : Prop:=Below w.heap.size w w' /\ ∃ cs,e = .returned (.agg cs) /\ TlAt w' (fun x => w.heap.size <= x) t cs
def tnum (g n : Int) : Tl:=.mk 0 false g ⟨(PB.ofNum n).toArray⟩ []
def aI (ks : List Tl) : Tl:=.mk 0 true 16 ⟨#[]⟩ ks
theorem eo {b : ByteArray} {l : List UInt8} (h : b.data.toList = l) : b = ⟨l.toArray⟩:=by
 obtain ⟨d⟩:=b
 obtain ⟨l'⟩:=d
 simp only at h
 subst h
 rfl
theorem eO (g n : Int) (hg : (Lit.int .i64 g).wf = true) (w : World) (hn1 : -9223372036854775808 <= n) (hn2 : n <= 9223372036854775807) : Calls Tryz.prog 19 #[.int .i64 0,.int .i64 g,.int .i64 n] w (RetT (tnum g n) w):=by
 refine (ft 0 g n w hn1 hn2).mono ?_
 rintro e w' ⟨⟨b,rfl,hb,-,-,hl⟩,hbw⟩
 refine ⟨hbw,_,rfl,?_⟩
 have e:=eo hl
 unfold tnum TlAt
 rw [<- e]
 exact ⟨none,0,rfl,⟨Nat.zero_le _,Nat.zero_le _⟩,rfl,hg,by unfold maxLen; omega,by unfold KsAt; trivial⟩
theorem bD (A : Option Addr) (n cap : Nat) (w : World) : Calls Tryz.prog 18 #[.slice A n cap] w fun e w' => e = .returned (.agg #[.int .i64 0,.bool true,.int .i64 16,.string ⟨#[]⟩,.slice A n cap]) /\ Below w.heap.size w w':=by
 go_enter Tryz.func18,Tryz.ntmps18
 go_wp2_with fail
 exact bodyPost_ret (v:=.agg #[.int .i64 0,.bool true,.int .i64 16,.string ⟨#[]⟩,.slice A n cap]) (by simp [results,Tryz.results18,go_sem]) rfl ⟨rfl,(Below.refl _ _).alloc (Nat.le_refl _) _⟩
theorem tlist_at {w : World} {S : Nat -> Prop} {A : Option Addr} {ks : List Tl} {cap : Nat} (hl : ks.length <= cap /\ cap <= maxLen) (hk : KsAt w S ks A 0) : TlAt w S (aI ks) #[.int .i64 0,.bool true,.int .i64 16,.string ⟨#[]⟩,.slice A ks.length cap]:=by
 unfold aI TlAt
 exact ⟨A,cap,rfl,hl,rfl,rfl,Nat.zero_le _,hk⟩
theorem dX (M : Ms) (m : MC) (S : Nat -> Prop) (w : World) (h : MsAt w S M m) (hop : M.op = 2) : Calls Tryz.prog 20 #[.agg m.cells] w (RetT (.mk 1 false 2 ⟨#[]⟩ []) w):=by
 obtain ⟨f,at',li,mo,de,co,rfl,-⟩:=h
 obtain ⟨cs,hcs⟩ : ∃ cs,cs = (M.mc f at' li mo de co).cells:=⟨_,rfl⟩
 have c1 : cs[1]? = some (.int .i64 2):=by rw [hcs,<- hop]; rfl
 rw [<- hcs]
 clear hcs hop
 go_enter Tryz.func20,Tryz.ntmps20
 go_wp2_with fail
 refine bodyPost_ret (v:=.agg #[.int .i64 1,.bool false,.int .i64 2,.string ⟨#[]⟩,.slice none 0 0]) (by simp [results,Tryz.results20,go_sem]) rfl ⟨?_,_,rfl,?_⟩
 ·exact (((Below.refl _ w).alloc (Nat.le_refl _) _).alloc (by simp) _).alloc (by simp; omega) _
 ·unfold TlAt
  exact ⟨none,0,rfl,⟨Nat.zero_le _,Nat.zero_le _⟩,rfl,rfl,Nat.zero_le _,by unfold KsAt; trivial⟩
theorem ag {w1 W w2 : World} (h : Below w1.heap.size w1 W) (h2 : Below W.heap.size W w2) : Below w1.heap.size w1 w2:=h.trans (h2.mono h.size)
theorem bel1 {w1 W : World} (h : Below w1.heap.size w1 W) (o : Obj) : Below w1.heap.size w1 (W.alloc o):=h.alloc h.size o
theorem bel2 {w1 W : World} (h : Below w1.heap.size w1 W) (o p : Obj) : Below w1.heap.size w1 ((W.alloc o).alloc p):=bel1 (bel1 h o) p
theorem ex {w : World} {S : Nat -> Prop} {blk : Nat} {t1 t2 : Tl} {x0 x2 y0 y2 : Int} {x1 y1 : Bool} {x3 y3 : ByteArray} {xA yA : Option Addr} {xn xc yn yc : Nat} (h : Bk w blk 42 #[.int .i64 x0,.bool x1,.int .i64 x2,.string x3,.slice xA xn xc,.int .i64 y0,.bool y1,.int .i64 y2,.string y3,.slice yA yn yc]) (hS : S blk)
  (h1 : TlAt w S t1 #[.int .i64 x0,.bool x1,.int .i64 x2,.string x3,.slice xA xn xc]) (h2 : TlAt w S t2 #[.int .i64 y0,.bool y1,.int .i64 y2,.string y3,.slice yA yn yc]) :
  TlAt w S (aI [t1,t2]) #[.int .i64 0,.bool true,.int .i64 16,.string ⟨#[]⟩,.slice (some ⟨blk,0,none⟩) 2 2]:=by
 refine tlist_at (ks:=[t1,t2]) ⟨by simp,by unfold maxLen; omega⟩ ?_
 unfold KsAt
 refine ⟨⟨blk,0,_,_,_,_,_,rfl,⟨hS,h.lt⟩,h.cell 0,h.cell 1,h.cell 2,h.cell 3,h.cell 4,h1⟩,?_⟩
 unfold KsAt
 refine ⟨⟨blk,0,_,_,_,_,_,rfl,⟨hS,h.lt⟩,h.cell 5,h.cell 6,h.cell 7,h.cell 8,h.cell 9,h2⟩,?_⟩
 unfold KsAt
 trivial
theorem bel5 {w1 W : World} {b : Nat} (h : Below w1.heap.size w1 W) (hb : w1.heap.size <= b) (v0 v1 v2 v3 v4 : Value) : Below w1.heap.size w1 (((((W.setCell ⟨b,0,none⟩ v0).setCell ⟨b,1,none⟩ v1).setCell ⟨b,2,none⟩ v2).setCell ⟨b,3,none⟩ v3).setCell ⟨b,4,none⟩ v4) :=
 ((((h.setCell hb _).setCell hb _).setCell hb _).setCell hb _).setCell hb _
theorem range_of {W : World} {b : Nat} {T : TypeId} {cs : Array Value} (h : Bk W b T cs) : W.rangeAt b 0 cs.toList:=fun j v hv => by
 rw [Nat.zero_add]
 exact (h.cell j).trans (by simpa using hv)
theorem encode_bare (M : Ms) (m : MC) (S : Nat -> Prop) (t : Tl) (w : World) (h : MsAt w S M m) (ha : AnsAt w) (hr : M.right = true) (hc : M.controls = []) (hid : 0 <= M.id /\ M.id <= 2147483647)
  (hop : ∀ W,Below w.heap.size w W -> Calls Tryz.prog 20 #[.agg m.cells] W (RetT t W)) :
  Calls Tryz.prog 7 #[.agg m.cells] w (EncTop (aI [tnum 2 M.id,t]) w):=by
 have HS:=aa aT
 obtain ⟨f,at',li,mo,de,⟨oA,on,oc⟩,hm,-,-,-,-,-,-,hco⟩:=id h
 obtain rfl : on = 0:=by have:=hco.1; rw [hc] at this; exact this
 have hms:=h
 obtain ⟨cs,hcs⟩ : ∃ cs,cs = m.cells:=⟨_,rfl⟩
 have c0 : cs[0]? = some (.int .i64 M.id):=by rw [hcs,hm]; rfl
 have c30 : cs[30]? = some (.slice oA 0 oc):=by rw [hcs,hm]; rfl
 have HSZ : Hid (cs.size = 31):=by rw [hcs]; rfl
 rw [<- hcs] at hop |-
 have hB:=(Below.refl w.heap.size w).alloc (Nat.le_refl _) (.cells cs 30)
 have HB:=aa hB
 have HBK:=aa (Bk.new w 30 cs)
 have HOP:=aa hop
 have HRT:=aa (show Calls Tryz.prog 9 #[.agg cs] (w.alloc (.cells cs 30)) (aq true _) by
  have:=ca M m S _ (h.keep hB.size (fun x _ hlt => hB.block x hlt) (fun _ h _ => h)) (ha.below hB); rwa [hr,<- hcs] at this)
 obtain ⟨id,hid'⟩ : ∃ id,id = M.id:=⟨_,rfl⟩
 rw [<- hid'] at c0 hid |-
 obtain ⟨hid1,hid2⟩:=hid
 clear hcs hop hB h ha hr hc hms hm hco hid'
 go_enter Tryz.func7,Tryz.ntmps7
 go_wp2_with (first
  | (refine wpList_load_row rfl 30 (.tmp 1) rfl w.heap.size rfl 30 cs (0,0) _ HBK.out Tryz.underlying30 rfl (by rw [HSZ.out]; exact HS.out) ?_)
  | (go_at_call 9; refine HRT.out.mono ?_; rintro e w1 ⟨rfl,hb1⟩; have HBK1:=aa (af HBK.out hb1); have HB1:=aa (HB.out.trans (hb1.mono HB.out.size)); clear hb1)
  | fail)
 have HBR:=aa (Below.refl w1.heap.size w1).drew
 have HNM:=aa (fun W => eO 2 id rfl W (by omega) (by omega))
 refine wp_region_held_drew (S:=fun W => Bk W w.heap.size 30 cs /\ Below w1.heap.size w1 W) (by kernel_rfl) ⟨af HBK1.out HBR.out,HBR.out⟩ (fun hHeld => ?_)
 refine wpAnyH_take (i:=0) (oi:={ dst:=some 8,op:=Op.fieldAddr 30 (Operand.tmp 1) 0,type:=0,pos:= "msg.go:266",after:=#[],guard:=none }) (v:=?_) rfl (by kernel_rfl) (by kernel_rfl) (by kernel_rfl) (fun _ _ _ h => h) (Or.inl ⟨by rfl,?_⟩) hHeld ?_
 rotate_left
 ·intro w0 hSw
  (try dsimp only at hSw)
  go_simp
  (try with_reducible rfl)
 try simp only [Act.put,List.setIfInBounds_toArray,List.set_cons_zero,List.set_cons_succ]
 refine wpAnyH_take (i:=1) (oi:={ dst:=some 9,op:=Op.load 3 (Operand.tmp 8),type:=3,pos:= "msg.go:266",after:=#[{ on:=0,ground:=Ground.data }],guard:=none }) (v:=?_) rfl (by kernel_rfl) (by kernel_rfl) (by kernel_rfl) (fun _ _ _ h => h) (Or.inl ⟨by rfl,?_⟩) hHeld ?_
 rotate_left
 ·intro w0 hSw
  (try dsimp only at hSw)
  have hs0 : w0.cell? ⟨w.heap.size,0,none⟩ = some (.int .i64 id):=(hSw.1.cell 0).trans c0
  go_simp
  (try with_reducible rfl)
 try simp only [Act.put,List.setIfInBounds_toArray,List.set_cons_zero,List.set_cons_succ]
 refine' wpAnyH_take (i:=3) (oi:={ dst:=some 11,op:=Op.load 30 (Operand.tmp 1),type:=30,pos:= "msg.go:266",after:=#[],guard:=none }) (v:=_) rfl (by kernel_rfl) (by kernel_rfl) (by kernel_rfl) (fun _ _ _ h => h) (yieldsIf_load_mid (by rfl) _ _ rfl w.heap.size 0 rfl cs.toList _ (fun W hW => range_of hW.1) Tryz.underlying30 rfl (by rw [show cs.toList.length = 31 by simpa using HSZ.out]; exact HS.out)) hHeld ?_
 try simp only [Act.put,List.setIfInBounds_toArray,List.set_cons_zero,List.set_cons_succ]
 refine wpAnyH_ready (rs:=[2,7]) (by kernel_rfl) (by simp) ?_
 refine AllReadyH.cons (o:={ dst:=some 10,op:=Op.call { callee:=Callee.value (Operand.func 19),args:=#[Operand.const (Value.int IntKind.i64 0),Operand.const (Value.int IntKind.i64 2),Operand.tmp 9],argTypes:=#[3,3,3] },type:=42,pos:= "msg.go:266",after:=#[{ on:=1,ground:=Ground.data }],guard:=none }) rfl (fun K hK => ?_) (AllReadyH.cons (o:={ dst:=some 4,op:=Op.alloc 42,type:=0,pos:= "msg.go:266",after:=#[],guard:=none }) rfl (fun K hK => ?_) AllReadyH.nil)
 ·go_simp
  (go_at_call 19)
  refine (HNM.out _).mono ?_
  rintro e w2 ⟨hb2,cs2,rfl,ht2⟩
  obtain ⟨x0,x1,x2,x3,xA,xn,xc,rfl⟩:=ak ht2
  have hbn2:=ag (W:=w1.drew) HBR.out hb2
  go_wp2_with fail
  refine hK.out _ _ ⟨af HBK1.out hbn2,hbn2⟩ (fun hHeld2 => ?_)
  clear hK K hHeld
  have hHeld:=hHeld2
  clear hHeld2
  try simp only [Act.put,List.setIfInBounds_toArray,List.set_cons_zero,List.set_cons_succ]
  refine wpAnyH_ready (rs:=[4,7]) (by kernel_rfl) (by simp) ?_
  refine AllReadyH.cons (o:={ dst:=some 12,op:=Op.call { callee:=Callee.value (Operand.func 20),args:=#[Operand.tmp 11],argTypes:=#[30] },type:=42,pos:= "msg.go:266",after:=#[{ on:=3,ground:=Ground.data },{ on:=2,ground:=Ground.chain }],guard:=none }) rfl (fun K hK => ?_) (AllReadyH.cons (o:={ dst:=some 4,op:=Op.alloc 42,type:=0,pos:= "msg.go:266",after:=#[],guard:=none }) rfl (fun K hK => ?_) AllReadyH.nil)
  ·go_simp
   (go_at_call 20)
   refine (HOP.out _ (HB1.out.trans (Below.mono hbn2 HB1.out.size))).mono ?_
   rintro e w3 ⟨hb3,cs3,rfl,ht3⟩
   obtain ⟨y0,y1,y2,y3,yA,yn,yc,rfl⟩:=ak ht3
   have hbn3:=ag (W:=w2) hbn2 hb3
   have h23 : Below w2.heap.size w2 w3:=hb3
   go_wp2_with fail
   refine hK.out _ _ ⟨af HBK1.out hbn3,hbn3⟩ (fun hHeld2 => ?_)
   clear hK K hHeld
   have hHeld:=hHeld2
   clear hHeld2
   try simp only [Act.put,List.setIfInBounds_toArray,List.set_cons_zero,List.set_cons_succ]
   refine wpAnyH_ready (rs:=[5,7]) (by kernel_rfl) (by simp) ?_
   refine AllReadyH.cons (o:={ dst:=some 13,op:=Op.buildSlice 40 2 #[(0,Operand.tmp 10),(1,Operand.tmp 12)],type:=40,pos:= "msg.go:266",after:=#[{ on:=2,ground:=Ground.data },{ on:=4,ground:=Ground.data }],guard:=none }) rfl (fun K hK => ?_) (AllReadyH.cons (o:={ dst:=some 4,op:=Op.alloc 42,type:=0,pos:= "msg.go:266",after:=#[],guard:=none }) rfl (fun K hK => ?_) AllReadyH.nil)
   ·go_simp
    refine hK.out _ _ ⟨af HBK1.out (bel1 hbn3 (.cells #[.int .i64 x0,.bool x1,.int .i64 x2,.string x3,.slice xA xn xc,.int .i64 y0,.bool y1,.int .i64 y2,.string y3,.slice yA yn yc] 42)),(bel1 hbn3 (.cells #[.int .i64 x0,.bool x1,.int .i64 x2,.string x3,.slice xA xn xc,.int .i64 y0,.bool y1,.int .i64 y2,.string y3,.slice yA yn yc] 42))⟩ (fun hHeld2 => ?_)
    clear hK K hHeld
    have hHeld:=hHeld2
    clear hHeld2
    try simp only [Act.put,List.setIfInBounds_toArray,List.set_cons_zero,List.set_cons_succ]
    refine wpAnyH_ready (rs:=[6,7]) (by kernel_rfl) (by simp) ?_
    refine AllReadyH.cons (o:={ dst:=some 14,op:=Op.call { callee:=Callee.value (Operand.func 18),args:=#[Operand.tmp 13],argTypes:=#[40] },type:=42,pos:= "msg.go:266",after:=#[{ on:=5,ground:=Ground.data },{ on:=4,ground:=Ground.chain }],guard:=none }) rfl (fun K hK => ?_) (AllReadyH.cons (o:={ dst:=some 4,op:=Op.alloc 42,type:=0,pos:= "msg.go:266",after:=#[],guard:=none }) rfl (fun K hK => ?_) AllReadyH.nil)
    ·go_simp
     (go_at_call 18)
     refine (bD _ _ _ _).mono ?_
     rintro e w4 ⟨rfl,hb4⟩
     have hsl4 : Bk w4 w3.heap.size 42 #[.int .i64 x0,.bool x1,.int .i64 x2,.string x3,.slice xA xn xc,.int .i64 y0,.bool y1,.int .i64 y2,.string y3,.slice yA yn yc]:=af (w:=(w3.alloc (.cells #[.int .i64 x0,.bool x1,.int .i64 x2,.string x3,.slice xA xn xc,.int .i64 y0,.bool y1,.int .i64 y2,.string y3,.slice yA yn yc] 42))) (Bk.new w3 42 #[.int .i64 x0,.bool x1,.int .i64 x2,.string x3,.slice xA xn xc,.int .i64 y0,.bool y1,.int .i64 y2,.string y3,.slice yA yn yc]) hb4
     have h34 : Below w3.heap.size w3 w4:=ag (W:=(w3.alloc (.cells #[.int .i64 x0,.bool x1,.int .i64 x2,.string x3,.slice xA xn xc,.int .i64 y0,.bool y1,.int .i64 y2,.string y3,.slice yA yn yc] 42))) (bel1 (Below.refl _ _) _) hb4
     have hbn4:=ag (W:=(w3.alloc (.cells #[.int .i64 x0,.bool x1,.int .i64 x2,.string x3,.slice xA xn xc,.int .i64 y0,.bool y1,.int .i64 y2,.string y3,.slice yA yn yc] 42))) (bel1 hbn3 (.cells #[.int .i64 x0,.bool x1,.int .i64 x2,.string x3,.slice xA xn xc,.int .i64 y0,.bool y1,.int .i64 y2,.string y3,.slice yA yn yc] 42)) hb4
     have hk2 : TlAt w4 (fun x => x ≠ w4.heap.size) (tnum 2 id) _:=TlAt.below h34 _ _ (TlAt.below h23 _ _ (TlAt.keep (T:=fun x => x ≠ w4.heap.size) (Nat.le_refl _) (fun _ _ _ => rfl) (fun x hx hlt => by have hx : w1.drew.heap.size <= x:=hx; (try simp at hx); show x ≠ _; have:=h23.size; have:=h34.size; omega) _ _ ht2))
     have hk3 : TlAt w4 (fun x => x ≠ w4.heap.size) t _:=TlAt.below h34 _ _ (TlAt.keep (T:=fun x => x ≠ w4.heap.size) (Nat.le_refl _) (fun _ _ _ => rfl) (fun x hx hlt => by have hx : w2.heap.size <= x:=hx; (try simp at hx); show x ≠ _; have:=h23.size; have:=h34.size; omega) _ _ ht3)
     have hsb : w3.heap.size ≠ w4.heap.size:=by have:=h23.size; have:=h34.size; have:=hsl4.lt; omega
     have HTT:=aa (ex (S:=fun x => x ≠ w4.heap.size) hsl4 hsb hk2 hk3)
     go_wp2_with fail
     refine hK.out _ _ ⟨af HBK1.out hbn4,hbn4⟩ (fun hHeld2 => ?_)
     clear hK K hHeld
     have hHeld:=hHeld2
     clear hHeld2
     try simp only [Act.put,List.setIfInBounds_toArray,List.set_cons_zero,List.set_cons_succ]
     refine wpAnyH_ready (rs:=[7]) (by kernel_rfl) (by simp) ?_
     refine AllReadyH.cons (o:={ dst:=some 4,op:=Op.alloc 42,type:=0,pos:= "msg.go:266",after:=#[],guard:=none }) rfl (fun K hK => ?_) AllReadyH.nil
     go_simp
     refine hK.out _ _ ⟨af HBK1.out (bel1 hbn4 (.cells #[.int .i64 0,.bool false,.int .i64 0,.string ⟨#[]⟩,.slice none 0 0] 42)),(bel1 hbn4 (.cells #[.int .i64 0,.bool false,.int .i64 0,.string ⟨#[]⟩,.slice none 0 0] 42))⟩ (fun hHeld2 => ?_)
     clear hK K hHeld
     have hHeld:=hHeld2
     clear hHeld2
     try simp only [Act.put,List.setIfInBounds_toArray,List.set_cons_zero,List.set_cons_succ]
     refine wpAnyH_ready (rs:=[8]) (by kernel_rfl) (by simp) ?_
     refine AllReadyH.cons (o:={ dst:=none,op:=Op.store 42 (Operand.tmp 4) (Operand.tmp 14),type:=0,pos:= "msg.go:266",after:=#[{ on:=7,ground:=Ground.data },{ on:=6,ground:=Ground.data },{ on:=6,ground:=Ground.chain },{ on:=0,ground:=Ground.phase },{ on:=1,ground:=Ground.phase },{ on:=2,ground:=Ground.phase },{ on:=3,ground:=Ground.phase },{ on:=4,ground:=Ground.phase },{ on:=5,ground:=Ground.phase },{ on:=6,ground:=Ground.phase },{ on:=7,ground:=Ground.phase }],guard:=none }) rfl (fun K hK => ?_) AllReadyH.nil
     go_simp
     have hbF:=(bel1 hbn4 (.cells #[.int .i64 0,.bool true,.int .i64 16,.string ⟨#[]⟩,.slice (some ⟨w3.heap.size,0,none⟩) 2 2] 42))
     refine hK.out _ _ ⟨af HBK1.out hbF,hbF⟩ (fun hHeld2 => ?_)
     clear hK K hHeld
     have hHeld:=hHeld2
     clear hHeld2
     try simp only [Act.put,List.setIfInBounds_toArray,List.set_cons_zero,List.set_cons_succ]
     refine wpAnyH_done (by kernel_rfl) ?_ _
     have hoF : Off [] w4 _:=(Off.refl [] w4).alloc (.cells #[.int .i64 0,.bool true,.int .i64 16,.string ⟨#[]⟩,.slice (some ⟨w3.heap.size,0,none⟩) 2 2] 42)
     have HTF:=aa (TlAt.keep (T:=fun _ => True) hoF.size (fun x hx hlt => hoF.block x hlt (by simp)) (fun _ _ _ => trivial) _ _ HTT.out)
     have hlw1:=HBK1.out.lt
     have hsz2:=hbn2.size
     have hsz3:=hbn3.size
     have hsz4:=hbn4.size
     have hnz : ¬ (w4.heap.size = w.heap.size):=by omega
     have hnz2 : ¬ (w.heap.size = w4.heap.size):=by omega
     have q30 : w4.cell? ⟨w.heap.size,30,none⟩ = some (.slice oA 0 oc):=((af HBK1.out hbn4).cell 30).trans c30
     have HBF:=aa (HB1.out.trans (hbF.mono HB1.out.size))
     have hlw4 : w.heap.size < w4.heap.size:=by omega
     clear hHeld hoF hbF hsl4 hk2 hk3 hsb HTT h23 h34 ht2 ht3
     go_wp2_with fail
     (go_at_call 23)
     refine (bv _ _ _ _ HTF.out).mono ?_
     rintro e w5 ⟨hb5,rfl⟩
     have HB5:=aa (HBF.out.trans (hb5.mono HBF.out.size))
     clear hb5 HTF
     go_wp2_with fail
     go_ret2
     exact ⟨HB5.out,rfl⟩
    ·go_simp
     refine hK.out _ _ ⟨af HBK1.out (bel1 (bel1 hbn3 (.cells #[.int .i64 x0,.bool x1,.int .i64 x2,.string x3,.slice xA xn xc,.int .i64 y0,.bool y1,.int .i64 y2,.string y3,.slice yA yn yc] 42)) (.cells #[.int .i64 0,.bool false,.int .i64 0,.string ⟨#[]⟩,.slice none 0 0] 42)),(bel1 (bel1 hbn3 (.cells #[.int .i64 x0,.bool x1,.int .i64 x2,.string x3,.slice xA xn xc,.int .i64 y0,.bool y1,.int .i64 y2,.string y3,.slice yA yn yc] 42)) (.cells #[.int .i64 0,.bool false,.int .i64 0,.string ⟨#[]⟩,.slice none 0 0] 42))⟩ (fun hHeld2 => ?_)
     clear hK K hHeld
     have hHeld:=hHeld2
     clear hHeld2
     try simp only [Act.put,List.setIfInBounds_toArray,List.set_cons_zero,List.set_cons_succ]
     refine wpAnyH_ready (rs:=[6]) (by kernel_rfl) (by simp) ?_
     refine AllReadyH.cons (o:={ dst:=some 14,op:=Op.call { callee:=Callee.value (Operand.func 18),args:=#[Operand.tmp 13],argTypes:=#[40] },type:=42,pos:= "msg.go:266",after:=#[{ on:=5,ground:=Ground.data },{ on:=4,ground:=Ground.chain }],guard:=none }) rfl (fun K hK => ?_) AllReadyH.nil
     go_simp
     (go_at_call 18)
     refine (bD _ _ _ _).mono ?_
     rintro e w4 ⟨rfl,hb4⟩
     have hsl4 : Bk w4 w3.heap.size 42 #[.int .i64 x0,.bool x1,.int .i64 x2,.string x3,.slice xA xn xc,.int .i64 y0,.bool y1,.int .i64 y2,.string y3,.slice yA yn yc]:=af (w:=((w3.alloc (.cells #[.int .i64 x0,.bool x1,.int .i64 x2,.string x3,.slice xA xn xc,.int .i64 y0,.bool y1,.int .i64 y2,.string y3,.slice yA yn yc] 42)).alloc (.cells #[.int .i64 0,.bool false,.int .i64 0,.string ⟨#[]⟩,.slice none 0 0] 42))) (Bk.alloc (Bk.new w3 42 #[.int .i64 x0,.bool x1,.int .i64 x2,.string x3,.slice xA xn xc,.int .i64 y0,.bool y1,.int .i64 y2,.string y3,.slice yA yn yc]) (.cells #[.int .i64 0,.bool false,.int .i64 0,.string ⟨#[]⟩,.slice none 0 0] 42)) hb4
     have h34 : Below w3.heap.size w3 w4:=ag (W:=((w3.alloc (.cells #[.int .i64 x0,.bool x1,.int .i64 x2,.string x3,.slice xA xn xc,.int .i64 y0,.bool y1,.int .i64 y2,.string y3,.slice yA yn yc] 42)).alloc (.cells #[.int .i64 0,.bool false,.int .i64 0,.string ⟨#[]⟩,.slice none 0 0] 42))) (bel2 (Below.refl _ _) _ _) hb4
     have hz4 : Bk w4 (w3.heap.size + 1) 42 #[.int .i64 0,.bool false,.int .i64 0,.string ⟨#[]⟩,.slice none 0 0]:=af (w:=((w3.alloc (.cells #[.int .i64 x0,.bool x1,.int .i64 x2,.string x3,.slice xA xn xc,.int .i64 y0,.bool y1,.int .i64 y2,.string y3,.slice yA yn yc] 42)).alloc (.cells #[.int .i64 0,.bool false,.int .i64 0,.string ⟨#[]⟩,.slice none 0 0] 42))) (show Bk ((w3.alloc (.cells #[.int .i64 x0,.bool x1,.int .i64 x2,.string x3,.slice xA xn xc,.int .i64 y0,.bool y1,.int .i64 y2,.string y3,.slice yA yn yc] 42)).alloc (.cells #[.int .i64 0,.bool false,.int .i64 0,.string ⟨#[]⟩,.slice none 0 0] 42)) (w3.heap.size + 1) 42 #[.int .i64 0,.bool false,.int .i64 0,.string ⟨#[]⟩,.slice none 0 0] by have h:=Bk.new (w3.alloc (.cells #[.int .i64 x0,.bool x1,.int .i64 x2,.string x3,.slice xA xn xc,.int .i64 y0,.bool y1,.int .i64 y2,.string y3,.slice yA yn yc] 42)) 42 #[.int .i64 0,.bool false,.int .i64 0,.string ⟨#[]⟩,.slice none 0 0]; simpa using h) hb4
     obtain ⟨z0,z1,z2,z3,z4⟩:=hz4.five
     have g0:=hz4.frozen 0
     have g1:=hz4.frozen 1
     have g2:=hz4.frozen 2
     have g3:=hz4.frozen 3
     have g4:=hz4.frozen 4
     have gl:=hz4.lt
     have hbn4:=ag (W:=((w3.alloc (.cells #[.int .i64 x0,.bool x1,.int .i64 x2,.string x3,.slice xA xn xc,.int .i64 y0,.bool y1,.int .i64 y2,.string y3,.slice yA yn yc] 42)).alloc (.cells #[.int .i64 0,.bool false,.int .i64 0,.string ⟨#[]⟩,.slice none 0 0] 42))) (bel1 (bel1 hbn3 (.cells #[.int .i64 x0,.bool x1,.int .i64 x2,.string x3,.slice xA xn xc,.int .i64 y0,.bool y1,.int .i64 y2,.string y3,.slice yA yn yc] 42)) (.cells #[.int .i64 0,.bool false,.int .i64 0,.string ⟨#[]⟩,.slice none 0 0] 42)) hb4
     have hk2 : TlAt w4 (fun x => x ≠ (w3.heap.size + 1)) (tnum 2 id) _:=TlAt.below h34 _ _ (TlAt.below h23 _ _ (TlAt.keep (T:=fun x => x ≠ (w3.heap.size + 1)) (Nat.le_refl _) (fun _ _ _ => rfl) (fun x hx hlt => by have hx : w1.drew.heap.size <= x:=hx; (try simp at hx); show x ≠ _; have:=h23.size; have:=h34.size; omega) _ _ ht2))
     have hk3 : TlAt w4 (fun x => x ≠ (w3.heap.size + 1)) t _:=TlAt.below h34 _ _ (TlAt.keep (T:=fun x => x ≠ (w3.heap.size + 1)) (Nat.le_refl _) (fun _ _ _ => rfl) (fun x hx hlt => by have hx : w2.heap.size <= x:=hx; (try simp at hx); show x ≠ _; have:=h23.size; have:=h34.size; omega) _ _ ht3)
     have hsb : w3.heap.size ≠ (w3.heap.size + 1):=by have:=h23.size; have:=h34.size; have:=hsl4.lt; omega
     have HTT:=aa (ex (S:=fun x => x ≠ (w3.heap.size + 1)) hsl4 hsb hk2 hk3)
     go_wp2_with fail
     refine hK.out _ _ ⟨af HBK1.out hbn4,hbn4⟩ (fun hHeld2 => ?_)
     clear hK K hHeld
     have hHeld:=hHeld2
     clear hHeld2
     try simp only [Act.put,List.setIfInBounds_toArray,List.set_cons_zero,List.set_cons_succ]
     refine wpAnyH_ready (rs:=[8]) (by kernel_rfl) (by simp) ?_
     refine AllReadyH.cons (o:={ dst:=none,op:=Op.store 42 (Operand.tmp 4) (Operand.tmp 14),type:=0,pos:= "msg.go:266",after:=#[{ on:=7,ground:=Ground.data },{ on:=6,ground:=Ground.data },{ on:=6,ground:=Ground.chain },{ on:=0,ground:=Ground.phase },{ on:=1,ground:=Ground.phase },{ on:=2,ground:=Ground.phase },{ on:=3,ground:=Ground.phase },{ on:=4,ground:=Ground.phase },{ on:=5,ground:=Ground.phase },{ on:=6,ground:=Ground.phase },{ on:=7,ground:=Ground.phase }],guard:=none }) rfl (fun K hK => ?_) AllReadyH.nil
     go_simp
     have hbF:=(bel5 (b:=(w3.heap.size + 1)) hbn4 (by have:=hbn2.size; have:=hbn3.size; have:=hbn4.size; omega) (.int .i64 0) (.bool true) (.int .i64 16) (.string ⟨#[]⟩) (.slice (some ⟨w3.heap.size,0,none⟩) 2 2))
     refine hK.out _ _ ⟨af HBK1.out hbF,hbF⟩ (fun hHeld2 => ?_)
     clear hK K hHeld
     have hHeld:=hHeld2
     clear hHeld2
     try simp only [Act.put,List.setIfInBounds_toArray,List.set_cons_zero,List.set_cons_succ]
     refine wpAnyH_done (by kernel_rfl) ?_ _
     have hoF : Off [(w3.heap.size + 1)] w4 _:=(((((Off.refl [(w3.heap.size + 1)] w4).setCell (p:=⟨(w3.heap.size + 1),0,none⟩) (.inl (by simp)) (.int .i64 0)).setCell (p:=⟨(w3.heap.size + 1),1,none⟩) (.inl (by simp)) (.bool true)).setCell (p:=⟨(w3.heap.size + 1),2,none⟩) (.inl (by simp)) (.int .i64 16)).setCell (p:=⟨(w3.heap.size + 1),3,none⟩) (.inl (by simp)) (.string ⟨#[]⟩)).setCell (p:=⟨(w3.heap.size + 1),4,none⟩) (.inl (by simp)) (.slice (some ⟨w3.heap.size,0,none⟩) 2 2)
     have HTF:=aa (TlAt.keep (T:=fun _ => True) hoF.size (fun x hx hlt => hoF.block x hlt (by have hx : x ≠ (w3.heap.size + 1):=hx; simpa using hx)) (fun _ _ _ => trivial) _ _ HTT.out)
     have hlw1:=HBK1.out.lt
     have hsz2:=hbn2.size
     have hsz3:=hbn3.size
     have hsz4:=hbn4.size
     have hnz : ¬ ((w3.heap.size + 1) = w.heap.size):=by omega
     have hnz2 : ¬ (w.heap.size = (w3.heap.size + 1)):=by omega
     have q30 : w4.cell? ⟨w.heap.size,30,none⟩ = some (.slice oA 0 oc):=((af HBK1.out hbn4).cell 30).trans c30
     have HBF:=aa (HB1.out.trans (hbF.mono HB1.out.size))
     have hlw4 : w.heap.size < w4.heap.size:=by omega
     clear hHeld hoF hbF hsl4 hk2 hk3 hsb HTT h23 h34 ht2 ht3
     go_wp2_with fail
     (go_at_call 23)
     refine (bv _ _ _ _ HTF.out).mono ?_
     rintro e w5 ⟨hb5,rfl⟩
     have HB5:=aa (HBF.out.trans (hb5.mono HBF.out.size))
     clear hb5 HTF
     go_wp2_with fail
     go_ret2
     exact ⟨HB5.out,rfl⟩
   ·go_simp
    refine hK.out _ _ ⟨af HBK1.out (bel1 hbn3 (.cells #[.int .i64 0,.bool false,.int .i64 0,.string ⟨#[]⟩,.slice none 0 0] 42)),(bel1 hbn3 (.cells #[.int .i64 0,.bool false,.int .i64 0,.string ⟨#[]⟩,.slice none 0 0] 42))⟩ (fun hHeld2 => ?_)
    clear hK K hHeld
    have hHeld:=hHeld2
    clear hHeld2
    try simp only [Act.put,List.setIfInBounds_toArray,List.set_cons_zero,List.set_cons_succ]
    refine wpAnyH_ready (rs:=[5]) (by kernel_rfl) (by simp) ?_
    refine AllReadyH.cons (o:={ dst:=some 13,op:=Op.buildSlice 40 2 #[(0,Operand.tmp 10),(1,Operand.tmp 12)],type:=40,pos:= "msg.go:266",after:=#[{ on:=2,ground:=Ground.data },{ on:=4,ground:=Ground.data }],guard:=none }) rfl (fun K hK => ?_) AllReadyH.nil
    go_simp
    refine hK.out _ _ ⟨af HBK1.out (bel1 (bel1 hbn3 (.cells #[.int .i64 0,.bool false,.int .i64 0,.string ⟨#[]⟩,.slice none 0 0] 42)) (.cells #[.int .i64 x0,.bool x1,.int .i64 x2,.string x3,.slice xA xn xc,.int .i64 y0,.bool y1,.int .i64 y2,.string y3,.slice yA yn yc] 42)),(bel1 (bel1 hbn3 (.cells #[.int .i64 0,.bool false,.int .i64 0,.string ⟨#[]⟩,.slice none 0 0] 42)) (.cells #[.int .i64 x0,.bool x1,.int .i64 x2,.string x3,.slice xA xn xc,.int .i64 y0,.bool y1,.int .i64 y2,.string y3,.slice yA yn yc] 42))⟩ (fun hHeld2 => ?_)
    clear hK K hHeld
    have hHeld:=hHeld2
    clear hHeld2
    try simp only [Act.put,List.setIfInBounds_toArray,List.set_cons_zero,List.set_cons_succ]
    refine wpAnyH_ready (rs:=[6]) (by kernel_rfl) (by simp) ?_
    refine AllReadyH.cons (o:={ dst:=some 14,op:=Op.call { callee:=Callee.value (Operand.func 18),args:=#[Operand.tmp 13],argTypes:=#[40] },type:=42,pos:= "msg.go:266",after:=#[{ on:=5,ground:=Ground.data },{ on:=4,ground:=Ground.chain }],guard:=none }) rfl (fun K hK => ?_) AllReadyH.nil
    go_simp
    (go_at_call 18)
    refine (bD _ _ _ _).mono ?_
    rintro e w4 ⟨rfl,hb4⟩
    have hsl4 : Bk w4 (w3.heap.size + 1) 42 #[.int .i64 x0,.bool x1,.int .i64 x2,.string x3,.slice xA xn xc,.int .i64 y0,.bool y1,.int .i64 y2,.string y3,.slice yA yn yc]:=af (w:=((w3.alloc (.cells #[.int .i64 0,.bool false,.int .i64 0,.string ⟨#[]⟩,.slice none 0 0] 42)).alloc (.cells #[.int .i64 x0,.bool x1,.int .i64 x2,.string x3,.slice xA xn xc,.int .i64 y0,.bool y1,.int .i64 y2,.string y3,.slice yA yn yc] 42))) (show Bk ((w3.alloc (.cells #[.int .i64 0,.bool false,.int .i64 0,.string ⟨#[]⟩,.slice none 0 0] 42)).alloc (.cells #[.int .i64 x0,.bool x1,.int .i64 x2,.string x3,.slice xA xn xc,.int .i64 y0,.bool y1,.int .i64 y2,.string y3,.slice yA yn yc] 42)) (w3.heap.size + 1) 42 #[.int .i64 x0,.bool x1,.int .i64 x2,.string x3,.slice xA xn xc,.int .i64 y0,.bool y1,.int .i64 y2,.string y3,.slice yA yn yc] by have h:=Bk.new (w3.alloc (.cells #[.int .i64 0,.bool false,.int .i64 0,.string ⟨#[]⟩,.slice none 0 0] 42)) 42 #[.int .i64 x0,.bool x1,.int .i64 x2,.string x3,.slice xA xn xc,.int .i64 y0,.bool y1,.int .i64 y2,.string y3,.slice yA yn yc]; simpa using h) hb4
    have h34 : Below w3.heap.size w3 w4:=ag (W:=((w3.alloc (.cells #[.int .i64 0,.bool false,.int .i64 0,.string ⟨#[]⟩,.slice none 0 0] 42)).alloc (.cells #[.int .i64 x0,.bool x1,.int .i64 x2,.string x3,.slice xA xn xc,.int .i64 y0,.bool y1,.int .i64 y2,.string y3,.slice yA yn yc] 42))) (bel2 (Below.refl _ _) _ _) hb4
    have hz4 : Bk w4 w3.heap.size 42 #[.int .i64 0,.bool false,.int .i64 0,.string ⟨#[]⟩,.slice none 0 0]:=af (w:=((w3.alloc (.cells #[.int .i64 0,.bool false,.int .i64 0,.string ⟨#[]⟩,.slice none 0 0] 42)).alloc (.cells #[.int .i64 x0,.bool x1,.int .i64 x2,.string x3,.slice xA xn xc,.int .i64 y0,.bool y1,.int .i64 y2,.string y3,.slice yA yn yc] 42))) (Bk.alloc (Bk.new w3 42 #[.int .i64 0,.bool false,.int .i64 0,.string ⟨#[]⟩,.slice none 0 0]) (.cells #[.int .i64 x0,.bool x1,.int .i64 x2,.string x3,.slice xA xn xc,.int .i64 y0,.bool y1,.int .i64 y2,.string y3,.slice yA yn yc] 42)) hb4
    obtain ⟨z0,z1,z2,z3,z4⟩:=hz4.five
    have g0:=hz4.frozen 0
    have g1:=hz4.frozen 1
    have g2:=hz4.frozen 2
    have g3:=hz4.frozen 3
    have g4:=hz4.frozen 4
    have gl:=hz4.lt
    have hbn4:=ag (W:=((w3.alloc (.cells #[.int .i64 0,.bool false,.int .i64 0,.string ⟨#[]⟩,.slice none 0 0] 42)).alloc (.cells #[.int .i64 x0,.bool x1,.int .i64 x2,.string x3,.slice xA xn xc,.int .i64 y0,.bool y1,.int .i64 y2,.string y3,.slice yA yn yc] 42))) (bel1 (bel1 hbn3 (.cells #[.int .i64 0,.bool false,.int .i64 0,.string ⟨#[]⟩,.slice none 0 0] 42)) (.cells #[.int .i64 x0,.bool x1,.int .i64 x2,.string x3,.slice xA xn xc,.int .i64 y0,.bool y1,.int .i64 y2,.string y3,.slice yA yn yc] 42)) hb4
    have hk2 : TlAt w4 (fun x => x ≠ w3.heap.size) (tnum 2 id) _:=TlAt.below h34 _ _ (TlAt.below h23 _ _ (TlAt.keep (T:=fun x => x ≠ w3.heap.size) (Nat.le_refl _) (fun _ _ _ => rfl) (fun x hx hlt => by have hx : w1.drew.heap.size <= x:=hx; (try simp at hx); show x ≠ _; have:=h23.size; have:=h34.size; omega) _ _ ht2))
    have hk3 : TlAt w4 (fun x => x ≠ w3.heap.size) t _:=TlAt.below h34 _ _ (TlAt.keep (T:=fun x => x ≠ w3.heap.size) (Nat.le_refl _) (fun _ _ _ => rfl) (fun x hx hlt => by have hx : w2.heap.size <= x:=hx; (try simp at hx); show x ≠ _; have:=h23.size; have:=h34.size; omega) _ _ ht3)
    have hsb : (w3.heap.size + 1) ≠ w3.heap.size:=by have:=h23.size; have:=h34.size; have:=hsl4.lt; omega
    have HTT:=aa (ex (S:=fun x => x ≠ w3.heap.size) hsl4 hsb hk2 hk3)
    go_wp2_with fail
    refine hK.out _ _ ⟨af HBK1.out hbn4,hbn4⟩ (fun hHeld2 => ?_)
    clear hK K hHeld
    have hHeld:=hHeld2
    clear hHeld2
    try simp only [Act.put,List.setIfInBounds_toArray,List.set_cons_zero,List.set_cons_succ]
    refine wpAnyH_ready (rs:=[8]) (by kernel_rfl) (by simp) ?_
    refine AllReadyH.cons (o:={ dst:=none,op:=Op.store 42 (Operand.tmp 4) (Operand.tmp 14),type:=0,pos:= "msg.go:266",after:=#[{ on:=7,ground:=Ground.data },{ on:=6,ground:=Ground.data },{ on:=6,ground:=Ground.chain },{ on:=0,ground:=Ground.phase },{ on:=1,ground:=Ground.phase },{ on:=2,ground:=Ground.phase },{ on:=3,ground:=Ground.phase },{ on:=4,ground:=Ground.phase },{ on:=5,ground:=Ground.phase },{ on:=6,ground:=Ground.phase },{ on:=7,ground:=Ground.phase }],guard:=none }) rfl (fun K hK => ?_) AllReadyH.nil
    go_simp
    have hbF:=(bel5 (b:=w3.heap.size) hbn4 (by have:=hbn2.size; have:=hbn3.size; have:=hbn4.size; omega) (.int .i64 0) (.bool true) (.int .i64 16) (.string ⟨#[]⟩) (.slice (some ⟨(w3.heap.size + 1),0,none⟩) 2 2))
    refine hK.out _ _ ⟨af HBK1.out hbF,hbF⟩ (fun hHeld2 => ?_)
    clear hK K hHeld
    have hHeld:=hHeld2
    clear hHeld2
    try simp only [Act.put,List.setIfInBounds_toArray,List.set_cons_zero,List.set_cons_succ]
    refine wpAnyH_done (by kernel_rfl) ?_ _
    have hoF : Off [w3.heap.size] w4 _:=(((((Off.refl [w3.heap.size] w4).setCell (p:=⟨w3.heap.size,0,none⟩) (.inl (by simp)) (.int .i64 0)).setCell (p:=⟨w3.heap.size,1,none⟩) (.inl (by simp)) (.bool true)).setCell (p:=⟨w3.heap.size,2,none⟩) (.inl (by simp)) (.int .i64 16)).setCell (p:=⟨w3.heap.size,3,none⟩) (.inl (by simp)) (.string ⟨#[]⟩)).setCell (p:=⟨w3.heap.size,4,none⟩) (.inl (by simp)) (.slice (some ⟨(w3.heap.size + 1),0,none⟩) 2 2)
    have HTF:=aa (TlAt.keep (T:=fun _ => True) hoF.size (fun x hx hlt => hoF.block x hlt (by have hx : x ≠ w3.heap.size:=hx; simpa using hx)) (fun _ _ _ => trivial) _ _ HTT.out)
    have hlw1:=HBK1.out.lt
    have hsz2:=hbn2.size
    have hsz3:=hbn3.size
    have hsz4:=hbn4.size
    have hnz : ¬ (w3.heap.size = w.heap.size):=by omega
    have hnz2 : ¬ (w.heap.size = w3.heap.size):=by omega
    have q30 : w4.cell? ⟨w.heap.size,30,none⟩ = some (.slice oA 0 oc):=((af HBK1.out hbn4).cell 30).trans c30
    have HBF:=aa (HB1.out.trans (hbF.mono HB1.out.size))
    have hlw4 : w.heap.size < w4.heap.size:=by omega
    clear hHeld hoF hbF hsl4 hk2 hk3 hsb HTT h23 h34 ht2 ht3
    go_wp2_with fail
    (go_at_call 23)
    refine (bv _ _ _ _ HTF.out).mono ?_
    rintro e w5 ⟨hb5,rfl⟩
    have HB5:=aa (HBF.out.trans (hb5.mono HBF.out.size))
    clear hb5 HTF
    go_wp2_with fail
    go_ret2
    exact ⟨HB5.out,rfl⟩
  ·go_simp
   refine hK.out _ _ ⟨af HBK1.out (bel1 hbn2 (.cells #[.int .i64 0,.bool false,.int .i64 0,.string ⟨#[]⟩,.slice none 0 0] 42)),(bel1 hbn2 (.cells #[.int .i64 0,.bool false,.int .i64 0,.string ⟨#[]⟩,.slice none 0 0] 42))⟩ (fun hHeld2 => ?_)
   clear hK K hHeld
   have hHeld:=hHeld2
   clear hHeld2
   try simp only [Act.put,List.setIfInBounds_toArray,List.set_cons_zero,List.set_cons_succ]
   refine wpAnyH_ready (rs:=[4]) (by kernel_rfl) (by simp) ?_
   refine AllReadyH.cons (o:={ dst:=some 12,op:=Op.call { callee:=Callee.value (Operand.func 20),args:=#[Operand.tmp 11],argTypes:=#[30] },type:=42,pos:= "msg.go:266",after:=#[{ on:=3,ground:=Ground.data },{ on:=2,ground:=Ground.chain }],guard:=none }) rfl (fun K hK => ?_) AllReadyH.nil
   go_simp
   (go_at_call 20)
   refine (HOP.out _ (HB1.out.trans (Below.mono (bel1 hbn2 (.cells #[.int .i64 0,.bool false,.int .i64 0,.string ⟨#[]⟩,.slice none 0 0] 42)) HB1.out.size))).mono ?_
   rintro e w3 ⟨hb3,cs3,rfl,ht3⟩
   obtain ⟨y0,y1,y2,y3,yA,yn,yc,rfl⟩:=ak ht3
   have hbn3:=ag (W:=(w2.alloc (.cells #[.int .i64 0,.bool false,.int .i64 0,.string ⟨#[]⟩,.slice none 0 0] 42))) (bel1 hbn2 (.cells #[.int .i64 0,.bool false,.int .i64 0,.string ⟨#[]⟩,.slice none 0 0] 42)) hb3
   have h23 : Below w2.heap.size w2 w3:=ag (W:=(w2.alloc (.cells #[.int .i64 0,.bool false,.int .i64 0,.string ⟨#[]⟩,.slice none 0 0] 42))) (bel1 (Below.refl _ _) _) hb3
   have hz3 : Bk w3 w2.heap.size 42 #[.int .i64 0,.bool false,.int .i64 0,.string ⟨#[]⟩,.slice none 0 0]:=af (w:=(w2.alloc (.cells #[.int .i64 0,.bool false,.int .i64 0,.string ⟨#[]⟩,.slice none 0 0] 42))) (Bk.new w2 42 #[.int .i64 0,.bool false,.int .i64 0,.string ⟨#[]⟩,.slice none 0 0]) hb3
   go_wp2_with fail
   refine hK.out _ _ ⟨af HBK1.out hbn3,hbn3⟩ (fun hHeld2 => ?_)
   clear hK K hHeld
   have hHeld:=hHeld2
   clear hHeld2
   try simp only [Act.put,List.setIfInBounds_toArray,List.set_cons_zero,List.set_cons_succ]
   refine wpAnyH_ready (rs:=[5]) (by kernel_rfl) (by simp) ?_
   refine AllReadyH.cons (o:={ dst:=some 13,op:=Op.buildSlice 40 2 #[(0,Operand.tmp 10),(1,Operand.tmp 12)],type:=40,pos:= "msg.go:266",after:=#[{ on:=2,ground:=Ground.data },{ on:=4,ground:=Ground.data }],guard:=none }) rfl (fun K hK => ?_) AllReadyH.nil
   go_simp
   refine hK.out _ _ ⟨af HBK1.out (bel1 hbn3 (.cells #[.int .i64 x0,.bool x1,.int .i64 x2,.string x3,.slice xA xn xc,.int .i64 y0,.bool y1,.int .i64 y2,.string y3,.slice yA yn yc] 42)),(bel1 hbn3 (.cells #[.int .i64 x0,.bool x1,.int .i64 x2,.string x3,.slice xA xn xc,.int .i64 y0,.bool y1,.int .i64 y2,.string y3,.slice yA yn yc] 42))⟩ (fun hHeld2 => ?_)
   clear hK K hHeld
   have hHeld:=hHeld2
   clear hHeld2
   try simp only [Act.put,List.setIfInBounds_toArray,List.set_cons_zero,List.set_cons_succ]
   refine wpAnyH_ready (rs:=[6]) (by kernel_rfl) (by simp) ?_
   refine AllReadyH.cons (o:={ dst:=some 14,op:=Op.call { callee:=Callee.value (Operand.func 18),args:=#[Operand.tmp 13],argTypes:=#[40] },type:=42,pos:= "msg.go:266",after:=#[{ on:=5,ground:=Ground.data },{ on:=4,ground:=Ground.chain }],guard:=none }) rfl (fun K hK => ?_) AllReadyH.nil
   go_simp
   (go_at_call 18)
   refine (bD _ _ _ _).mono ?_
   rintro e w4 ⟨rfl,hb4⟩
   have hsl4 : Bk w4 w3.heap.size 42 #[.int .i64 x0,.bool x1,.int .i64 x2,.string x3,.slice xA xn xc,.int .i64 y0,.bool y1,.int .i64 y2,.string y3,.slice yA yn yc]:=af (w:=(w3.alloc (.cells #[.int .i64 x0,.bool x1,.int .i64 x2,.string x3,.slice xA xn xc,.int .i64 y0,.bool y1,.int .i64 y2,.string y3,.slice yA yn yc] 42))) (Bk.new w3 42 #[.int .i64 x0,.bool x1,.int .i64 x2,.string x3,.slice xA xn xc,.int .i64 y0,.bool y1,.int .i64 y2,.string y3,.slice yA yn yc]) hb4
   have h34 : Below w3.heap.size w3 w4:=ag (W:=(w3.alloc (.cells #[.int .i64 x0,.bool x1,.int .i64 x2,.string x3,.slice xA xn xc,.int .i64 y0,.bool y1,.int .i64 y2,.string y3,.slice yA yn yc] 42))) (bel1 (Below.refl _ _) _) hb4
   have hz4 : Bk w4 w2.heap.size 42 #[.int .i64 0,.bool false,.int .i64 0,.string ⟨#[]⟩,.slice none 0 0]:=af (w:=(w3.alloc (.cells #[.int .i64 x0,.bool x1,.int .i64 x2,.string x3,.slice xA xn xc,.int .i64 y0,.bool y1,.int .i64 y2,.string y3,.slice yA yn yc] 42))) (Bk.alloc hz3 (.cells #[.int .i64 x0,.bool x1,.int .i64 x2,.string x3,.slice xA xn xc,.int .i64 y0,.bool y1,.int .i64 y2,.string y3,.slice yA yn yc] 42)) hb4
   obtain ⟨z0,z1,z2,z3,z4⟩:=hz4.five
   have g0:=hz4.frozen 0
   have g1:=hz4.frozen 1
   have g2:=hz4.frozen 2
   have g3:=hz4.frozen 3
   have g4:=hz4.frozen 4
   have gl:=hz4.lt
   have hbn4:=ag (W:=(w3.alloc (.cells #[.int .i64 x0,.bool x1,.int .i64 x2,.string x3,.slice xA xn xc,.int .i64 y0,.bool y1,.int .i64 y2,.string y3,.slice yA yn yc] 42))) (bel1 hbn3 (.cells #[.int .i64 x0,.bool x1,.int .i64 x2,.string x3,.slice xA xn xc,.int .i64 y0,.bool y1,.int .i64 y2,.string y3,.slice yA yn yc] 42)) hb4
   have hk2 : TlAt w4 (fun x => x ≠ w2.heap.size) (tnum 2 id) _:=TlAt.below h34 _ _ (TlAt.below h23 _ _ (TlAt.keep (T:=fun x => x ≠ w2.heap.size) (Nat.le_refl _) (fun _ _ _ => rfl) (fun x hx hlt => by have hx : w1.drew.heap.size <= x:=hx; (try simp at hx); show x ≠ _; have:=h23.size; have:=h34.size; have:=hz3.lt; omega) _ _ ht2))
   have hk3 : TlAt w4 (fun x => x ≠ w2.heap.size) t _:=TlAt.below h34 _ _ (TlAt.keep (T:=fun x => x ≠ w2.heap.size) (Nat.le_refl _) (fun _ _ _ => rfl) (fun x hx hlt => by have hx : (w2.alloc (.cells #[.int .i64 0,.bool false,.int .i64 0,.string ⟨#[]⟩,.slice none 0 0] 42)).heap.size <= x:=hx; (try simp at hx); show x ≠ _; have:=h23.size; have:=h34.size; have:=hz3.lt; omega) _ _ ht3)
   have hsb : w3.heap.size ≠ w2.heap.size:=by have:=h23.size; have:=h34.size; have:=hz3.lt; have:=hsl4.lt; omega
   have HTT:=aa (ex (S:=fun x => x ≠ w2.heap.size) hsl4 hsb hk2 hk3)
   go_wp2_with fail
   refine hK.out _ _ ⟨af HBK1.out hbn4,hbn4⟩ (fun hHeld2 => ?_)
   clear hK K hHeld
   have hHeld:=hHeld2
   clear hHeld2
   try simp only [Act.put,List.setIfInBounds_toArray,List.set_cons_zero,List.set_cons_succ]
   refine wpAnyH_ready (rs:=[8]) (by kernel_rfl) (by simp) ?_
   refine AllReadyH.cons (o:={ dst:=none,op:=Op.store 42 (Operand.tmp 4) (Operand.tmp 14),type:=0,pos:= "msg.go:266",after:=#[{ on:=7,ground:=Ground.data },{ on:=6,ground:=Ground.data },{ on:=6,ground:=Ground.chain },{ on:=0,ground:=Ground.phase },{ on:=1,ground:=Ground.phase },{ on:=2,ground:=Ground.phase },{ on:=3,ground:=Ground.phase },{ on:=4,ground:=Ground.phase },{ on:=5,ground:=Ground.phase },{ on:=6,ground:=Ground.phase },{ on:=7,ground:=Ground.phase }],guard:=none }) rfl (fun K hK => ?_) AllReadyH.nil
   go_simp
   have hbF:=(bel5 (b:=w2.heap.size) hbn4 (by have:=hbn2.size; have:=hbn3.size; have:=hbn4.size; omega) (.int .i64 0) (.bool true) (.int .i64 16) (.string ⟨#[]⟩) (.slice (some ⟨w3.heap.size,0,none⟩) 2 2))
   refine hK.out _ _ ⟨af HBK1.out hbF,hbF⟩ (fun hHeld2 => ?_)
   clear hK K hHeld
   have hHeld:=hHeld2
   clear hHeld2
   try simp only [Act.put,List.setIfInBounds_toArray,List.set_cons_zero,List.set_cons_succ]
   refine wpAnyH_done (by kernel_rfl) ?_ _
   have hoF : Off [w2.heap.size] w4 _:=(((((Off.refl [w2.heap.size] w4).setCell (p:=⟨w2.heap.size,0,none⟩) (.inl (by simp)) (.int .i64 0)).setCell (p:=⟨w2.heap.size,1,none⟩) (.inl (by simp)) (.bool true)).setCell (p:=⟨w2.heap.size,2,none⟩) (.inl (by simp)) (.int .i64 16)).setCell (p:=⟨w2.heap.size,3,none⟩) (.inl (by simp)) (.string ⟨#[]⟩)).setCell (p:=⟨w2.heap.size,4,none⟩) (.inl (by simp)) (.slice (some ⟨w3.heap.size,0,none⟩) 2 2)
   have HTF:=aa (TlAt.keep (T:=fun _ => True) hoF.size (fun x hx hlt => hoF.block x hlt (by have hx : x ≠ w2.heap.size:=hx; simpa using hx)) (fun _ _ _ => trivial) _ _ HTT.out)
   have hlw1:=HBK1.out.lt
   have hsz2:=hbn2.size
   have hsz3:=hbn3.size
   have hsz4:=hbn4.size
   have hnz : ¬ (w2.heap.size = w.heap.size):=by omega
   have hnz2 : ¬ (w.heap.size = w2.heap.size):=by omega
   have q30 : w4.cell? ⟨w.heap.size,30,none⟩ = some (.slice oA 0 oc):=((af HBK1.out hbn4).cell 30).trans c30
   have HBF:=aa (HB1.out.trans (hbF.mono HB1.out.size))
   have hlw4 : w.heap.size < w4.heap.size:=by omega
   clear hHeld hoF hbF hsl4 hk2 hk3 hsb HTT h23 h34 ht2 ht3
   go_wp2_with fail
   (go_at_call 23)
   refine (bv _ _ _ _ HTF.out).mono ?_
   rintro e w5 ⟨hb5,rfl⟩
   have HB5:=aa (HBF.out.trans (hb5.mono HBF.out.size))
   clear hb5 HTF
   go_wp2_with fail
   go_ret2
   exact ⟨HB5.out,rfl⟩
 ·go_simp
  refine hK.out _ _ ⟨af HBK1.out (bel1 HBR.out (.cells #[.int .i64 0,.bool false,.int .i64 0,.string ⟨#[]⟩,.slice none 0 0] 42)),(bel1 HBR.out (.cells #[.int .i64 0,.bool false,.int .i64 0,.string ⟨#[]⟩,.slice none 0 0] 42))⟩ (fun hHeld2 => ?_)
  clear hK K hHeld
  have hHeld:=hHeld2
  clear hHeld2
  try simp only [Act.put,List.setIfInBounds_toArray,List.set_cons_zero,List.set_cons_succ]
  refine wpAnyH_ready (rs:=[2]) (by kernel_rfl) (by simp) ?_
  refine AllReadyH.cons (o:={ dst:=some 10,op:=Op.call { callee:=Callee.value (Operand.func 19),args:=#[Operand.const (Value.int IntKind.i64 0),Operand.const (Value.int IntKind.i64 2),Operand.tmp 9],argTypes:=#[3,3,3] },type:=42,pos:= "msg.go:266",after:=#[{ on:=1,ground:=Ground.data }],guard:=none }) rfl (fun K hK => ?_) AllReadyH.nil
  go_simp
  (go_at_call 19)
  refine (HNM.out _).mono ?_
  rintro e w2 ⟨hb2,cs2,rfl,ht2⟩
  obtain ⟨x0,x1,x2,x3,xA,xn,xc,rfl⟩:=ak ht2
  have hbn2:=ag (W:=(w1.drew.alloc (.cells #[.int .i64 0,.bool false,.int .i64 0,.string ⟨#[]⟩,.slice none 0 0] 42))) (bel1 HBR.out (.cells #[.int .i64 0,.bool false,.int .i64 0,.string ⟨#[]⟩,.slice none 0 0] 42)) hb2
  have hz2 : Bk w2 w1.heap.size 42 #[.int .i64 0,.bool false,.int .i64 0,.string ⟨#[]⟩,.slice none 0 0]:=af (w:=(w1.drew.alloc (.cells #[.int .i64 0,.bool false,.int .i64 0,.string ⟨#[]⟩,.slice none 0 0] 42))) (Bk.new w1.drew 42 #[.int .i64 0,.bool false,.int .i64 0,.string ⟨#[]⟩,.slice none 0 0]) hb2
  go_wp2_with fail
  refine hK.out _ _ ⟨af HBK1.out hbn2,hbn2⟩ (fun hHeld2 => ?_)
  clear hK K hHeld
  have hHeld:=hHeld2
  clear hHeld2
  try simp only [Act.put,List.setIfInBounds_toArray,List.set_cons_zero,List.set_cons_succ]
  refine wpAnyH_ready (rs:=[4]) (by kernel_rfl) (by simp) ?_
  refine AllReadyH.cons (o:={ dst:=some 12,op:=Op.call { callee:=Callee.value (Operand.func 20),args:=#[Operand.tmp 11],argTypes:=#[30] },type:=42,pos:= "msg.go:266",after:=#[{ on:=3,ground:=Ground.data },{ on:=2,ground:=Ground.chain }],guard:=none }) rfl (fun K hK => ?_) AllReadyH.nil
  go_simp
  (go_at_call 20)
  refine (HOP.out _ (HB1.out.trans (Below.mono hbn2 HB1.out.size))).mono ?_
  rintro e w3 ⟨hb3,cs3,rfl,ht3⟩
  obtain ⟨y0,y1,y2,y3,yA,yn,yc,rfl⟩:=ak ht3
  have hbn3:=ag (W:=w2) hbn2 hb3
  have h23 : Below w2.heap.size w2 w3:=hb3
  have hz3 : Bk w3 w1.heap.size 42 #[.int .i64 0,.bool false,.int .i64 0,.string ⟨#[]⟩,.slice none 0 0]:=af (w:=w2) hz2 hb3
  go_wp2_with fail
  refine hK.out _ _ ⟨af HBK1.out hbn3,hbn3⟩ (fun hHeld2 => ?_)
  clear hK K hHeld
  have hHeld:=hHeld2
  clear hHeld2
  try simp only [Act.put,List.setIfInBounds_toArray,List.set_cons_zero,List.set_cons_succ]
  refine wpAnyH_ready (rs:=[5]) (by kernel_rfl) (by simp) ?_
  refine AllReadyH.cons (o:={ dst:=some 13,op:=Op.buildSlice 40 2 #[(0,Operand.tmp 10),(1,Operand.tmp 12)],type:=40,pos:= "msg.go:266",after:=#[{ on:=2,ground:=Ground.data },{ on:=4,ground:=Ground.data }],guard:=none }) rfl (fun K hK => ?_) AllReadyH.nil
  go_simp
  refine hK.out _ _ ⟨af HBK1.out (bel1 hbn3 (.cells #[.int .i64 x0,.bool x1,.int .i64 x2,.string x3,.slice xA xn xc,.int .i64 y0,.bool y1,.int .i64 y2,.string y3,.slice yA yn yc] 42)),(bel1 hbn3 (.cells #[.int .i64 x0,.bool x1,.int .i64 x2,.string x3,.slice xA xn xc,.int .i64 y0,.bool y1,.int .i64 y2,.string y3,.slice yA yn yc] 42))⟩ (fun hHeld2 => ?_)
  clear hK K hHeld
  have hHeld:=hHeld2
  clear hHeld2
  try simp only [Act.put,List.setIfInBounds_toArray,List.set_cons_zero,List.set_cons_succ]
  refine wpAnyH_ready (rs:=[6]) (by kernel_rfl) (by simp) ?_
  refine AllReadyH.cons (o:={ dst:=some 14,op:=Op.call { callee:=Callee.value (Operand.func 18),args:=#[Operand.tmp 13],argTypes:=#[40] },type:=42,pos:= "msg.go:266",after:=#[{ on:=5,ground:=Ground.data },{ on:=4,ground:=Ground.chain }],guard:=none }) rfl (fun K hK => ?_) AllReadyH.nil
  go_simp
  (go_at_call 18)
  refine (bD _ _ _ _).mono ?_
  rintro e w4 ⟨rfl,hb4⟩
  have hsl4 : Bk w4 w3.heap.size 42 #[.int .i64 x0,.bool x1,.int .i64 x2,.string x3,.slice xA xn xc,.int .i64 y0,.bool y1,.int .i64 y2,.string y3,.slice yA yn yc]:=af (w:=(w3.alloc (.cells #[.int .i64 x0,.bool x1,.int .i64 x2,.string x3,.slice xA xn xc,.int .i64 y0,.bool y1,.int .i64 y2,.string y3,.slice yA yn yc] 42))) (Bk.new w3 42 #[.int .i64 x0,.bool x1,.int .i64 x2,.string x3,.slice xA xn xc,.int .i64 y0,.bool y1,.int .i64 y2,.string y3,.slice yA yn yc]) hb4
  have h34 : Below w3.heap.size w3 w4:=ag (W:=(w3.alloc (.cells #[.int .i64 x0,.bool x1,.int .i64 x2,.string x3,.slice xA xn xc,.int .i64 y0,.bool y1,.int .i64 y2,.string y3,.slice yA yn yc] 42))) (bel1 (Below.refl _ _) _) hb4
  have hz4 : Bk w4 w1.heap.size 42 #[.int .i64 0,.bool false,.int .i64 0,.string ⟨#[]⟩,.slice none 0 0]:=af (w:=(w3.alloc (.cells #[.int .i64 x0,.bool x1,.int .i64 x2,.string x3,.slice xA xn xc,.int .i64 y0,.bool y1,.int .i64 y2,.string y3,.slice yA yn yc] 42))) (Bk.alloc hz3 (.cells #[.int .i64 x0,.bool x1,.int .i64 x2,.string x3,.slice xA xn xc,.int .i64 y0,.bool y1,.int .i64 y2,.string y3,.slice yA yn yc] 42)) hb4
  obtain ⟨z0,z1,z2,z3,z4⟩:=hz4.five
  have g0:=hz4.frozen 0
  have g1:=hz4.frozen 1
  have g2:=hz4.frozen 2
  have g3:=hz4.frozen 3
  have g4:=hz4.frozen 4
  have gl:=hz4.lt
  have hbn4:=ag (W:=(w3.alloc (.cells #[.int .i64 x0,.bool x1,.int .i64 x2,.string x3,.slice xA xn xc,.int .i64 y0,.bool y1,.int .i64 y2,.string y3,.slice yA yn yc] 42))) (bel1 hbn3 (.cells #[.int .i64 x0,.bool x1,.int .i64 x2,.string x3,.slice xA xn xc,.int .i64 y0,.bool y1,.int .i64 y2,.string y3,.slice yA yn yc] 42)) hb4
  have hk2 : TlAt w4 (fun x => x ≠ w1.heap.size) (tnum 2 id) _:=TlAt.below h34 _ _ (TlAt.below h23 _ _ (TlAt.keep (T:=fun x => x ≠ w1.heap.size) (Nat.le_refl _) (fun _ _ _ => rfl) (fun x hx hlt => by have hx : (w1.drew.alloc (.cells #[.int .i64 0,.bool false,.int .i64 0,.string ⟨#[]⟩,.slice none 0 0] 42)).heap.size <= x:=hx; (try simp at hx); show x ≠ _; have:=h23.size; have:=h34.size; have:=hz2.lt; omega) _ _ ht2))
  have hk3 : TlAt w4 (fun x => x ≠ w1.heap.size) t _:=TlAt.below h34 _ _ (TlAt.keep (T:=fun x => x ≠ w1.heap.size) (Nat.le_refl _) (fun _ _ _ => rfl) (fun x hx hlt => by have hx : w2.heap.size <= x:=hx; (try simp at hx); show x ≠ _; have:=h23.size; have:=h34.size; have:=hz2.lt; omega) _ _ ht3)
  have hsb : w3.heap.size ≠ w1.heap.size:=by have:=h23.size; have:=h34.size; have:=hz2.lt; have:=hsl4.lt; omega
  have HTT:=aa (ex (S:=fun x => x ≠ w1.heap.size) hsl4 hsb hk2 hk3)
  go_wp2_with fail
  refine hK.out _ _ ⟨af HBK1.out hbn4,hbn4⟩ (fun hHeld2 => ?_)
  clear hK K hHeld
  have hHeld:=hHeld2
  clear hHeld2
  try simp only [Act.put,List.setIfInBounds_toArray,List.set_cons_zero,List.set_cons_succ]
  refine wpAnyH_ready (rs:=[8]) (by kernel_rfl) (by simp) ?_
  refine AllReadyH.cons (o:={ dst:=none,op:=Op.store 42 (Operand.tmp 4) (Operand.tmp 14),type:=0,pos:= "msg.go:266",after:=#[{ on:=7,ground:=Ground.data },{ on:=6,ground:=Ground.data },{ on:=6,ground:=Ground.chain },{ on:=0,ground:=Ground.phase },{ on:=1,ground:=Ground.phase },{ on:=2,ground:=Ground.phase },{ on:=3,ground:=Ground.phase },{ on:=4,ground:=Ground.phase },{ on:=5,ground:=Ground.phase },{ on:=6,ground:=Ground.phase },{ on:=7,ground:=Ground.phase }],guard:=none }) rfl (fun K hK => ?_) AllReadyH.nil
  go_simp
  have hbF:=(bel5 (b:=w1.heap.size) hbn4 (by have:=hbn2.size; have:=hbn3.size; have:=hbn4.size; omega) (.int .i64 0) (.bool true) (.int .i64 16) (.string ⟨#[]⟩) (.slice (some ⟨w3.heap.size,0,none⟩) 2 2))
  refine hK.out _ _ ⟨af HBK1.out hbF,hbF⟩ (fun hHeld2 => ?_)
  clear hK K hHeld
  have hHeld:=hHeld2
  clear hHeld2
  try simp only [Act.put,List.setIfInBounds_toArray,List.set_cons_zero,List.set_cons_succ]
  refine wpAnyH_done (by kernel_rfl) ?_ _
  have hoF : Off [w1.heap.size] w4 _:=(((((Off.refl [w1.heap.size] w4).setCell (p:=⟨w1.heap.size,0,none⟩) (.inl (by simp)) (.int .i64 0)).setCell (p:=⟨w1.heap.size,1,none⟩) (.inl (by simp)) (.bool true)).setCell (p:=⟨w1.heap.size,2,none⟩) (.inl (by simp)) (.int .i64 16)).setCell (p:=⟨w1.heap.size,3,none⟩) (.inl (by simp)) (.string ⟨#[]⟩)).setCell (p:=⟨w1.heap.size,4,none⟩) (.inl (by simp)) (.slice (some ⟨w3.heap.size,0,none⟩) 2 2)
  have HTF:=aa (TlAt.keep (T:=fun _ => True) hoF.size (fun x hx hlt => hoF.block x hlt (by have hx : x ≠ w1.heap.size:=hx; simpa using hx)) (fun _ _ _ => trivial) _ _ HTT.out)
  have hlw1:=HBK1.out.lt
  have hsz2:=hbn2.size
  have hsz3:=hbn3.size
  have hsz4:=hbn4.size
  have hnz : ¬ (w1.heap.size = w.heap.size):=by omega
  have hnz2 : ¬ (w.heap.size = w1.heap.size):=by omega
  have q30 : w4.cell? ⟨w.heap.size,30,none⟩ = some (.slice oA 0 oc):=((af HBK1.out hbn4).cell 30).trans c30
  have HBF:=aa (HB1.out.trans (hbF.mono HB1.out.size))
  have hlw4 : w.heap.size < w4.heap.size:=by omega
  clear hHeld hoF hbF hsl4 hk2 hk3 hsb HTT h23 h34 ht2 ht3
  go_wp2_with fail
  (go_at_call 23)
  refine (bv _ _ _ _ HTF.out).mono ?_
  rintro e w5 ⟨hb5,rfl⟩
  have HB5:=aa (HBF.out.trans (hb5.mono HBF.out.size))
  clear hb5 HTF
  go_wp2_with fail
  go_ret2
  exact ⟨HB5.out,rfl⟩
def Two (w : World) (b : Nat) (cs : Array Value) (er : Int) : Prop:=Bk w b 30 cs /\ Bk w (b + 1) 33 #[.int .i64 er]
theorem assert_troubleM (W : World) : (Instr.typeAssert (.iface 73 (.agg #[])) 20 73 false).run Tryz.prog W = .ok (.agg #[]) W:=by kernel_rfl
theorem Two.drew {w : World} {b : Nat} {cs : Array Value} {er : Int} (h : Two w b cs er) : Two w.drew b cs er:=h
theorem bU (b : Nat) (old : Array Value) (e0 : Int) (w : World) (h : Two w b old e0) (hsz : old.size = 31) :
  CallsD Tryz.prog 40 #[.pointer (some ⟨b,0,none⟩),.pointer (some ⟨b + 1,0,none⟩)] (.panicking [{ v:=.iface 73 (.agg #[]),recovered:=false }]) w fun e u' w' =>
   e = .returned (.tuple #[]) /\ u' = .panicking [{ v:=.iface 73 (.agg #[]),recovered:=true }] /\ Two w' b MC.zero.cells 4 /\ Off [b,b + 1] w w':=by
 have HS:=aa aT
 obtain ⟨h0,h1⟩:=h
 have H0:=aa h0
 have H1:=aa h1
 have y : w.cell? ⟨b + 1,0,none⟩ = some (.int .i64 e0):=h1.cell 0
 have fy:=h1.frozen 0
 have HSZ:=aa hsz
 have hta:=assert_troubleM
 obtain ⟨z,hz⟩ : ∃ z,z = MC.zero.cells:=⟨_,rfl⟩
 have HZ : Hid (z.all (·.oneCell') = true):=by rw [hz]; exact cF _
 have HZSZ : Hid (z.size = 31):=by rw [hz]; rfl
 rw [<- hz]
 have HZE:=aa hz
 clear h0 h1 hsz hz
 refine callsD_of_wpS Tryz.func40 rfl fun c₀ cs hu => ?_
 apply wpS_seq
 apply wpS_region
 simp [wpOpsS,go_sem,recoverD,hu,Tryz.ntmps40,Exit.thenS]
 refine wpS_of_wp ?_
 have e1 : (#[Value.pointer (some { block:=b,off:=0 }),Value.pointer (some { block:=b + 1,off:=0 })] ++
     ((Array.replicate 7 undef).setIfInBounds 1 (Value.iface 73 (.agg #[]))).setIfInBounds 0 (Value.iface 73 (.agg #[])) : Array Value) =
   #[Value.pointer (some { block:=b,off:=0 }),Value.pointer (some { block:=b + 1,off:=0 }),Value.iface 73 (.agg #[]),Value.iface 73 (.agg #[]),undef,undef,undef,undef,undef]:=rfl
 rw [e1]
 clear e1
 go_wp2_with (first
   | (refine ap rfl 30 (.tmp 0) (.tmp 8) rfl b rfl z (by rw [HZE.out]; rfl) 30 _ H0.out (by rw [HSZ.out,HZSZ.out]) (by rw [HZSZ.out]; exact HS.out) HZ.out ?_; intro w3 hb3 ho3; have HB3:=aa hb3; have HO3:=aa ho3; have y3 : w3.cell? ⟨b + 1,0,none⟩ = some (.int .i64 e0):=(ho3.bk H1.out (by simp)).cell 0; have f3:=(ho3.bk H1.out (by simp)).frozen 0; have HY3:=aa (ho3.bk H1.out (by simp)); clear hb3 ho3)
   | fail)
 refine ⟨rfl,_,rfl,.tuple #[],?_,rfl,rfl,⟨?_,?_⟩,?_⟩
 ·simp [results,Tryz.results40]
 ·exact HB3.out.far (p:=⟨b + 1,0,none⟩) (by simp) _
 ·have:=HY3.out.put 0 (.int .i64 4)
  simpa using this
 ·exact (HO3.out.mono (by simp)).setCell (.inl (by simp)) _
theorem mdec_idle (a b : Value) (w : World) :
  CallsD Tryz.prog 40 #[a,b] .returning w fun e u' w' => e = .returned (.tuple #[]) /\ u' = .returning /\ w' = w:=by
 refine callsD_of_wpS Tryz.func40 rfl fun c₀ cs hu => ?_
 apply wpS_seq
 apply wpS_region
 simp [wpOpsS,go_sem,recoverD,hu,Tryz.ntmps40,Exit.thenS]
 refine wpS_of_wp ?_
 have e1 : (#[a,b] ++ ((Array.replicate 7 undef).setIfInBounds 1 Value.nilIface).setIfInBounds 0 Value.nilIface : Array Value) = #[a,b,Value.nilIface,Value.nilIface,undef,undef,undef,undef,undef]:=rfl
 rw [e1]
 clear e1
 go_wp2_with fail
 refine ⟨rfl,.returning,?_,.tuple #[],?_,rfl,rfl,rfl⟩
 ·cases c₀; simp_all
 ·simp [results,Tryz.results40]
theorem aQ {tm : Array Value} {w : World} {b : Nat} {cs : Array Value} {er : Int} (h2 : tm[2]? = some (.pointer (some ⟨b,0,none⟩))) (h3 : tm[3]? = some (.pointer (some ⟨b + 1,0,none⟩)))
  (h : Two w b cs er) (hsz : cs.size = 31) : Sem.run Tryz.prog (results Tryz.f11 tm) w = .ok (.tuple #[.agg cs,.int .i64 er]) w:=by
 obtain ⟨k0,k1⟩:=h
 have y:=k1.cell 0
 simp at y
 have hl:=run_loadVar_row (P:=Tryz.prog) w b 30 30 cs (0,0) _ k0 Tryz.underlying30 rfl (by rw [hsz]; exact aT)
 have hl2 : (loadVar 33 ⟨b + 1,0,none⟩).run Tryz.prog w = .ok (.int .i64 er) w:=by simp [go_sem,y]
 have h2' : tm[2]?.getD undef = .pointer (some ⟨b,0,none⟩):=by rw [h2]; rfl
 have h3' : tm[3]?.getD undef = .pointer (some ⟨b + 1,0,none⟩):=by rw [h3]; rfl
 simp [results,Tryz.results11,h2',h3',asAddr,hl,hl2]
theorem Tl.fews_mem : ∀ {ks : List Tl},Tl.fews ks -> ∀ k ∈ ks,k.few
 | [],_,k,h => by simp at h
 | x :: ks,hf,k,h => by
  unfold Tl.fews at hf
  rcases List.mem_cons.1 h with rfl | h
  ·exact hf.1
  ·exact Tl.fews_mem hf.2 k h
mutual
theorem filter_any : ∀ (k : Tl) (hf : k.few) (cs : Array Value) (S : Nat -> Prop) (w : World),TlAt w S k cs -> Calls Tryz.prog 103 #[.agg cs] w (cG (filP k) w)
 | .mk c k t s ks,hf,cs,S,w,h => by
  have ih:=filters_any ks
  unfold Tl.few at hf
  unfold TlAt at h
  obtain ⟨A,cap,rfl,hl,hwc,hwt,hs,hk⟩:=h
  by_cases h0 : c ≠ 2 \/ k = (t == 7)
  ·exact (filter_no c k t s A ks.length cap w h0).mono fun e w' he => ⟨he.1,.inl ⟨by unfold filP; rw [if_pos h0],he.2⟩⟩
  have hc : c = 2:=by by_cases h : c = 2; exact h; exact absurd (.inl h) h0
  have hkt : k ≠ (t == 7):=fun h => h0 (.inr h)
  subst hc
  by_cases h7 : t = 7
  ·subst h7
   have hkf : k = false:=by cases k <;> simp_all
   subst hkf
   have e : filP (.mk 2 false 7 s ks) = some (.mk 7 s ⟨#[]⟩ ⟨#[]⟩ [] ⟨#[]⟩ []):=by unfold filP; rw [if_neg h0,if_neg (by omega),if_pos rfl]
   rw [e]
   exact filter_has s A ks.length cap w hs
  have hkf : k = true:=by
   have : (t == 7) = false:=by simpa using h7
   rw [this] at hkt
   cases k <;> simp_all
  subst hkf
  by_cases h2 : t <= 2
  ·have e : filP (.mk 2 true t s ks) = (cC ks).map fun l => .mk t ⟨#[]⟩ ⟨#[]⟩ ⟨#[]⟩ [] ⟨#[]⟩ l:=by unfold filP; rw [if_neg h0,if_pos h2]
   rw [e]
   exact filter_many t ks S A s cap w h2 hwt hf hl hk (fun k hk cs S w ht => ih k hk (Tl.fews_mem hf.2 k hk) cs S w ht)
  by_cases h4 : t = 4
  ·subst h4
   have e : filP (.mk 2 true 4 s ks) = partP ks:=by unfold filP partP; rw [if_neg h0,if_neg (by omega),if_neg (by omega),if_pos rfl]
   rw [e]
   exact filter_part ks S A s cap w hf hl hk
  by_cases h8 : t <= 8
  ·have e : filP (.mk 2 true t s ks) = pairP t ks:=by unfold filP pairP; rw [if_neg h0,if_neg h2,if_neg h7,if_neg h4,if_pos h8]
   rw [e]
   exact filter_pair t ks S A s cap w (by omega) h8 h7 h4 hwt hl hk
  by_cases h9 : t = 9
  ·subst h9
   have e : filP (.mk 2 true 9 s ks) = some (.mk 7 ⟨#[63]⟩ ⟨#[]⟩ ⟨#[]⟩ [] ⟨#[]⟩ []):=by unfold filP; rw [if_neg h0,if_neg (by omega),if_neg (by omega),if_neg (by omega),if_neg (by omega),if_pos rfl]
   rw [e]
   exact filter_same A s ks.length cap w
  ·have e : filP (.mk 2 true t s ks) = none:=by unfold filP; rw [if_neg h0,if_neg h2,if_neg h7,if_neg h4,if_neg h8,if_neg h9]
   rw [e]
   exact (filter_far t A s ks.length cap w (by omega)).mono fun e w' he => ⟨he.1,.inl ⟨rfl,he.2⟩⟩
theorem filters_any : ∀ (ks : List Tl),∀ k ∈ ks,k.few -> ∀ (cs : Array Value) (S : Nat -> Prop) (w : World),TlAt w S k cs -> Calls Tryz.prog 103 #[.agg cs] w (cG (filP k) w)
 | [],k,h => by simp at h
 | x :: ks,k,h => fun hf cs S w ht => by
  have h1:=filter_any x
  have h2:=filters_any ks
  rcases List.mem_cons.1 h with rfl | h
  ·exact h1 hf cs S w ht
  ·exact h2 k h hf cs S w ht
end
end Go.Proofs.YtbiglfpikfjbpaaGreatDoor
