import Derived.Test.YtbiglfpikfjbpaaGreatDoorM6
import Derived.Test.YtbiglfpikfjbpaaGreatDoorM9
import Derived.Deep.CutBlock
import Derived.Deep.CutRange
import Derived.Test.YtbiglfpikfjbpaaGreatDoorM34
import Derived.Test.YtbiglfpikfjbpaaGreatDoorM12
namespace Go.Proofs.YtbiglfpikfjbpaaGreatDoor
open Go.RowKit
set_option maxRecDepth 100000
set_option linter.unusedVariables false
set_option linter.unusedSimpArgs false
set_option maxHeartbeats 40000000
theorem SRow.keep9 {w w' : World} {S : Nat -> Prop} {q : Rw} {ss : List ByteArray} (h : SRow w S q ss) (hb : Below w.heap.size w w') : SRow w'.drew S q ss :=
 RowOf.keep al h hb.size (fun b _ hlt => hb.block b hlt) (fun _ h _ => h)
def Ms.small (M : Ms) : Prop:=M.attrs.length <= 40000 /\ M.dest.length <= 40000 /\ (M.list.length <= 40000 /\ ∀ a ∈ M.list,a.2.length <= 40000) /\ (M.mods.length <= 40000 /\ ∀ a ∈ M.mods,a.2.2.length <= 40000) /\ M.controls.length <= 40000
theorem dG {n lo hi : Int} (h : inB n lo hi = true) : lo <= n /\ n <= hi:=by simpa [inB] using h
theorem dY {n lo hi : Int} (h : inB n lo hi = true) (h1 : -9223372036854775808 <= lo) (h2 : hi <= 9223372036854775807) : in64 n:=by
 have:=dG h
 exact ⟨by omega,by omega⟩
theorem Ms.ops (M : Ms) (h : M.ranged = true) : M.op = 0 \/ M.op = 3 \/ M.op = 4 \/ M.op = 8 \/ M.op = 6 \/ M.op = 12 \/ M.op = 14 \/ M.op = 23 \/ M.op = 2 \/ M.op = 10 \/ M.op = 16 ∨
  (aD M.op = true /\ inB M.code 0 127 = true /\ M.op ≠ 0 /\ M.op ≠ 3 /\ M.op ≠ 4 /\ M.op ≠ 8 /\ M.op ≠ 6 /\ M.op ≠ 12 /\ M.op ≠ 14 /\ M.op ≠ 23 /\ M.op ≠ 2 /\ M.op ≠ 10 /\ M.op ≠ 16):=by
 by_cases h0 : M.op = 0; · exact .inl h0
 by_cases h3 : M.op = 3; · simp [h3]
 by_cases h4 : M.op = 4; · simp [h4]
 by_cases h8 : M.op = 8; · simp [h8]
 by_cases h6 : M.op = 6; · simp [h6]
 by_cases h12 : M.op = 12; · simp [h12]
 by_cases h14 : M.op = 14; · simp [h14]
 by_cases h23 : M.op = 23; · simp [h23]
 by_cases h2 : M.op = 2; · simp [h2]
 by_cases h10 : M.op = 10; · simp [h10]
 by_cases h16 : M.op = 16; · simp [h16]
 unfold Ms.ranged at h
 rw [if_neg h0,if_neg h3,if_neg h6,if_neg h12,if_neg h16,if_neg h23,if_neg (by simp [h2,h4,h8,h10,h14])] at h
 simp only [Bool.and_eq_true] at h
 simp [h0,h3,h4,h8,h6,h12,h14,h23,h2,h10,h16,h.1,h.2]
theorem ans_wf {op : Int} (h : aD op = true) : (Lit.int .i64 op).wf = true:=by
 simp [aD] at h
 rcases h with rfl | rfl | rfl | rfl | rfl | rfl | rfl | rfl <;> rfl
theorem parts_do (M : Ms) (m : MC) (S : Nat -> Prop) (w : World) (h : MsAt w S M m) (hr : M.ranged = true) (hs : M.small) (h2 : M.op ≠ 2) (h10 : M.op ≠ 10) (h16 : M.op ≠ 16) :
  Calls Tryz.prog 51 #[.agg m.cells] w (aN M.partsT w):=by
 obtain ⟨s1,s2,⟨s3,s4⟩,⟨s5,s6⟩,s7⟩:=hs
 have hr':=hr
 unfold Ms.ranged at hr
 unfold Ms.partsT
 rcases M.ops hr' with h | h | h | h | h | h | h | h | h | h | h | ⟨ha,hc,k0,k3,k4,k8,k6,k12,k14,k23,-,-,-⟩
 ·rw [if_pos h] at hr |-
  simp only [Bool.and_eq_true] at hr
  exact partsw_0 M m S w (by assumption) h (dY hr.1 (by omega) (by omega))
 ·rw [if_neg (by omega),if_pos h] at hr |-
  simp only [Bool.and_eq_true] at hr
  obtain ⟨r1,r2,r3,r4,r5⟩:=hr
  exact partsw_3 M m S w (by assumption) h (by omega) (dY r1 (by omega) (by omega)) (dY r2 (by omega) (by omega)) (dY r3 (by omega) (by omega)) (dY r4 (by omega) (by omega)) (fil_right _ r5)
 ·rw [if_neg (by omega),if_neg (by omega),if_pos (by omega)]
  exact partsw_4 M m S w (by assumption) h (by omega) (fun a ha => by have:=s4 a ha; omega)
 ·rw [if_neg (by omega),if_neg (by omega),if_pos (by omega)]
  exact partsw_8 M m S w (by assumption) h (by omega) (fun a ha => by have:=s4 a ha; omega)
 ·rw [if_neg (by omega),if_neg (by omega),if_pos h] at hr
  rw [if_neg (by omega),if_neg (by omega),if_neg (by omega),if_pos h]
  exact partsw_6 M m S w (by assumption) h (by omega) (fun a ha => ⟨by have:=s6 a ha; omega,dY (by simpa using List.all_eq_true.1 hr a ha) (by omega) (by omega)⟩)
 ·rw [if_neg (by omega),if_neg (by omega),if_neg (by omega),if_neg (by omega),if_pos h]
  exact partsw_12 M m S w (by assumption) h (by omega)
 ·rw [if_neg (by omega),if_neg (by omega),if_neg (by omega),if_neg (by omega),if_neg (by omega),if_pos h]
  exact partsw_14 M m S w (by assumption) h
 ·rw [if_neg (by omega),if_neg (by omega),if_neg (by omega),if_neg (by omega),if_neg (by omega),if_neg (by omega),if_pos h]
  cases hh : M.has with
  | false => exact partsw_23_false M m S w (by assumption) h hh
  | true => exact partsw_23_true M m S w (by assumption) h hh
 ·exact absurd h h2
 ·exact absurd h h10
 ·exact absurd h h16
 ·rw [if_neg k0,if_neg k3,if_neg (by omega),if_neg k6,if_neg k12,if_neg k14,if_neg k23]
  by_cases hcond : M.op = 24 /\ aj M.kind = true
  ·exact partsw_ans_yes M m S w (by assumption) k0 k3 k4 k8 k6 k12 k14 k23 (dY hc (by omega) (by omega)) hcond
  ·refine partsw_ans_no M m S w (by assumption) k0 k3 k4 k8 k6 k12 k14 k23 (dY hc (by omega) (by omega)) ?_
   cases h1 : (M.op == 24) with
   | false => rfl
   | true =>
    cases h2 : aj M.kind with
    | false => rfl
    | true => exact absurd ⟨by simpa using h1,h2⟩ hcond
theorem operation_any (M : Ms) (m : MC) (S : Nat -> Prop) (w : World) (h : MsAt w S M m) (hr : M.ranged = true) (hs : M.small) : Calls Tryz.prog 20 #[.agg m.cells] w (RetT M.opT w):=by
 unfold Ms.opT
 by_cases h2 : M.op = 2
 ·rw [if_pos h2]; exact dX M m S w h h2
 rw [if_neg h2]
 by_cases h10 : M.op = 10
 ·rw [if_pos h10]; exact op_delete M m S w h h10
 rw [if_neg h10]
 by_cases h16 : M.op = 16
 ·rw [if_pos h16]
  refine op_abandon M m S w h h16 ?_
  unfold Ms.ranged at hr
  rw [if_neg (by omega),if_neg (by omega),if_neg (by omega),if_neg (by omega),if_pos h16] at hr
  exact dY hr (by omega) (by omega)
 rw [if_neg h16]
 refine op_parts M m S w h h2 h10 h16 ?_ (fun W hb => parts_do M m S W (h.keep hb.size (fun x _ hlt => hb.block x hlt) (fun _ h _ => h)) hr hs h2 h10 h16)
 rcases M.ops hr with h | h | h | h | h | h | h | h | h | h | h | ⟨ha,-⟩
 ·rw [h]; rfl
 ·rw [h]; rfl
 ·rw [h]; rfl
 ·rw [h]; rfl
 ·rw [h]; rfl
 ·rw [h]; rfl
 ·rw [h]; rfl
 ·rw [h]; rfl
 ·rw [h]; rfl
 ·rw [h]; rfl
 ·rw [h]; rfl
 ·exact ans_wf ha
structure EncN (w wx : World) (cs : Array Value) (g sb : Nat) (t1 t2 : Tl) (xs ys : List Value) : Prop where
 below : Below w.heap.size w wx
 box : Bk wx w.heap.size 30 cs
 val : Bk wx g 42 #[.int .i64 0,.bool true,.int .i64 16,.string ⟨#[]⟩,.slice (some ⟨sb,0,none⟩) 2 2]
 row : Bk wx sb 42 (xs ++ ys).toArray
 leaf : LeafC t1 xs
 tree : ys.length = 5 /\ TlAt wx (fun x => x ≠ g /\ x ≠ sb) t2 ys.toArray
 ne : sb ≠ g /\ w.heap.size < g /\ w.heap.size < sb
def AnyAt (w : World) (t : Tl) (c : List Value) : Prop:=c.length = 5 /\ TlAt w (fun _ => True) t c.toArray
theorem anyRow {w : World} {S : Nat -> Prop} {q : Rw} {ts : List Tl} (h : RowOf 5 (fun _ _ t c => AnyAt w t c) w S q ts) : RowOf 5 TlL w (fun _ => True) q ts:=by
 obtain ⟨h1,h2,h3,h4⟩:=h
 refine ⟨h1,h2,h3,fun i d hd => ?_⟩
 obtain ⟨b,o,c,q1,q2,q3,q4,q5⟩:=h4 i d hd
 exact ⟨b,o,c,q1,⟨trivial,q2.2⟩,q3,q4,q5.2⟩
theorem row_any {w : World} {B n cap : Nat} {A : Option Addr} {ts : List Tl} {css : List (List Value)} (hown : w.ownsRow B 42 5 (.slice A n cap) ts.length css.flatten) (hA : All2 (AnyAt w) ts css) : RowOf 5 TlL w (fun _ => True) ⟨A,n,cap⟩ ts:=by
 have hG : GRow 42 5 (fun _ _ t c => AnyAt w t c) w B (.slice A n cap) ts:=⟨css,hA.len.symm,fun c hx => hA.right (P:=fun c => c.length = 5) (fun _ _ h => h.1) c hx,hown,fun i t c ht hc => hA.get i t c ht hc⟩
 obtain ⟨q,e,hq⟩:=GRow.row (fun _ _ _ _ _ h => h) hG
 injection e with e1 e2 e3
 have:=anyRow hq
 obtain ⟨qA,qn,qc⟩:=q
 simp only at e1 e2 e3
 subst e1 e2 e3
 exact this
theorem EncN.own {w wx : World} {cs : Array Value} {g sb : Nat} {t1 t2 : Tl} {xs ys : List Value} (h : EncN w wx cs g sb t1 t2 xs ys) : wx.ownsRow w.heap.size 42 5 (.slice (some ⟨sb,0,none⟩) 2 2) 2 (xs ++ ys) :=
 ⟨by rw [List.length_append,h.leaf.1,h.tree.1],.inr ⟨sb,2,(xs ++ ys).toArray,rfl,by have:=h.ne.2.2; omega,h.row,Nat.le_refl _,by unfold maxLen; omega,by simp [h.leaf.1,h.tree.1],by rw [List.take_of_length_le (by simp [h.leaf.1,h.tree.1])]⟩⟩
theorem EncN.two {w wx : World} {cs : Array Value} {g sb : Nat} {t1 t2 : Tl} {xs ys : List Value} (h : EncN w wx cs g sb t1 t2 xs ys) : TlAt wx (fun _ => True) (aI [t1,t2]) #[.int .i64 0,.bool true,.int .i64 16,.string ⟨#[]⟩,.slice (some ⟨sb,0,none⟩) 2 2] :=
 bX 0 16 true ⟨#[]⟩ (row_any (css:=[xs,ys]) (ts:=[t1,t2]) (by simpa using h.own) ⟨⟨h.leaf.1,h.leaf.2 _ _⟩,⟨h.tree.1,TlAt.keep (Nat.le_refl _) (fun _ _ _ => rfl) (fun _ _ _ => trivial) _ _ h.tree.2⟩,trivial⟩) rfl rfl (Nat.zero_le _)
theorem EncN.three {w wx w6 w7 : World} {cs : Array Value} {g sb gg cap7 : Nat} {t1 t2 t3 : Tl} {xs ys zs : List Value} {o : Obj} (h : EncN w wx cs g sb t1 t2 xs ys) (hb6 : Below wx.heap.size wx.drew w6) (hz : zs.length = 5) (ht : TlAt w6 (fun x => wx.heap.size <= x) t3 zs.toArray)
  (hown7 : w7.ownsRow w.heap.size 42 5 (.slice (some ⟨gg,0,none⟩) 3 cap7) 3 ((xs ++ ys) ++ zs)) (hgr : (w6.alloc o).grownBy w7 (Value.slice (some ⟨sb,0,none⟩) 2 2).ownBlock) (hat : (Value.slice (some ⟨sb,0,none⟩) 2 2).ownBlock = some gg \/ gg = w6.heap.size + 1) :
  Below w.heap.size w (w7.setCell ⟨g,4,none⟩ (.slice (some ⟨gg,0,none⟩) 3 cap7)) /\ Bk (w7.setCell ⟨g,4,none⟩ (.slice (some ⟨gg,0,none⟩) 3 cap7)) g 42 #[.int .i64 0,.bool true,.int .i64 16,.string ⟨#[]⟩,.slice (some ⟨gg,0,none⟩) 3 cap7] ∧
   TlAt (w7.setCell ⟨g,4,none⟩ (.slice (some ⟨gg,0,none⟩) 3 cap7)) (fun _ => True) (aI [t1,t2,t3]) #[.int .i64 0,.bool true,.int .i64 16,.string ⟨#[]⟩,.slice (some ⟨gg,0,none⟩) 3 cap7]:=by
 have hb:=h.below.drew.trans (hb6.mono h.below.size)
 have hg6:=af h.val.drew hb6
 have hk6:=af h.box.drew hb6
 obtain ⟨n1,n2,n3⟩:=h.ne
 have hN:=eF (bo:=sb) hb (Nat.le_refl _) hg6 hk6 (by omega) rfl n1 (by omega) (by omega) (by omega) hown7 hgr hat
 have hs6:=hb6.size
 have hgl:=h.val.lt
 have hsl:=h.row.lt
 have hs6' : wx.heap.size <= w6.heap.size:=hs6
 have hgs:=hgr.size
 have hkeep : ∀ x,x ≠ g -> x ≠ sb -> x < w6.heap.size -> (w7.setCell ⟨g,4,none⟩ (.slice (some ⟨gg,0,none⟩) 3 cap7)).heap[x]? = w6.heap[x]?:=fun x h1 h2 h3 => by
  have e1:=Below.heap_setCell w7 ⟨g,4,none⟩ (.slice (some ⟨gg,0,none⟩) 3 cap7) x h1
  have e2:=hgr.block x (by simp; omega) (by simp [Value.ownBlock]; exact h2)
  have e3:=Below.heap_alloc w6 o x h3
  exact e1.trans (e2.trans e3)
 have hsz : w6.heap.size <= (w7.setCell ⟨g,4,none⟩ (.slice (some ⟨gg,0,none⟩) 3 cap7)).heap.size:=by simp at hgs |-; omega
 have ht2 : TlAt w6 (fun x => x ≠ g /\ x ≠ sb) t2 ys.toArray:=TlAt.below (w:=wx.drew) hb6 _ _ (TlAt.keep (w:=wx) (w':=wx.drew) (Nat.le_refl _) (fun _ _ _ => rfl) (fun _ hx _ => hx) _ _ h.tree.2)
 refine ⟨hN.1,hN.2.1,bX 0 16 true ⟨#[]⟩ (row_any (css:=[xs,ys,zs]) (ts:=[t1,t2,t3]) (by simpa using hN.2.2.2) ⟨⟨h.leaf.1,h.leaf.2 _ _⟩,⟨h.tree.1,?_⟩,⟨hz,?_⟩,trivial⟩) rfl rfl (Nat.zero_le _)⟩
 ·exact TlAt.keep hsz (fun x hx hlt => hkeep x hx.1 hx.2 hlt) (fun _ _ _ => trivial) _ _ ht2
 ·exact TlAt.keep hsz (fun x hx hlt => hkeep x (by have hx : wx.heap.size <= x:=hx; omega) (by have hx : wx.heap.size <= x:=hx; omega) hlt) (fun _ _ _ => trivial) _ _ ht
theorem of_ctl_row (q : Rw) (ss : List Co) (S : Nat -> Prop) (w : World) (h : RowOf 4 CoAt w S q ss) (hn : ss.length <= 1000000) :
  Calls Tryz.prog 21 #[.slice q.A q.n q.c,.func (.func 22) #[] #[]] w (aN (ss.map tctl) w):=by
 have:=of_ctl q.A q.c ss S tctl w (by rw [<- h.1]; exact h) hn (fun s hs W c _ hat => ctl_do s c S W hat)
 rw [<- h.1] at this
 exact this
theorem tree_none (M : Ms) (h : M.controls = []) : M.tree = aI [tnum 2 M.id,M.opT]:=by unfold Ms.tree; rw [if_pos h]; rfl
theorem tree_some (M : Ms) (h : M.controls ≠ []) : M.tree = aI [tnum 2 M.id,M.opT,.mk 2 true 0 ⟨#[]⟩ (M.controls.map tctl)]:=by unfold Ms.tree; rw [if_neg h]; rfl
theorem encode_right (M : Ms) (m : MC) (S : Nat -> Prop) (w : World) (h : MsAt w S M m) (ha : AnsAt w) (hr : M.right = true) (hsm : M.small) :
  Calls Tryz.prog 7 #[.agg m.cells] w (EncTop M.tree w):=by
 have HS:=aa aT
 obtain ⟨i0,hi,iz0,iz1,iz2⟩:=info_parts aR
 have hr':=hr
 unfold Ms.right at hr'
 simp only [Bool.and_eq_true] at hr'
 obtain ⟨-,hid,hg,-⟩:=hr'
 obtain ⟨hid1,hid2⟩:=dG hid
 obtain ⟨f,at',li,mo,de,⟨oA,on,oc⟩,hm,-,-,-,-,-,-,hco⟩:=id h
 have hms:=h
 obtain ⟨cs,hcs⟩ : ∃ cs,cs = m.cells:=⟨_,rfl⟩
 have c0 : cs[0]? = some (.int .i64 M.id):=by rw [hcs,hm]; rfl
 have c30 : cs[30]? = some (.slice oA on oc):=by rw [hcs,hm]; rfl
 have HSZ : Hid (cs.size = 31):=by rw [hcs]; rfl
 have HCS:=aa hcs
 rw [<- hcs]
 have hB:=(Below.refl w.heap.size w).alloc (Nat.le_refl _) (.cells cs 30)
 have HB:=aa hB
 have HBK:=aa (Bk.new w 30 cs)
 obtain ⟨t,ht⟩ : ∃ t,t = M.opT:=⟨_,rfl⟩
 have HOP:=aa fun (W : World) (hb : Below w.heap.size w W) => (show Calls Tryz.prog 20 #[.agg cs] W (RetT t W) by
  rw [hcs,ht]; exact operation_any M m S W (h.keep hb.size (fun x _ hlt => hb.block x hlt) (fun _ h _ => h)) hg hsm)
 have HOF:=aa fun (W : World) (hb : Below w.heap.size w W) => (show Calls Tryz.prog 21 #[.slice oA on oc,.func (.func 22) #[] #[]] W (aN (M.controls.map tctl) W) from
  of_ctl_row ⟨oA,on,oc⟩ M.controls S W (RowOf.keep bV hco (T:=S) hb.size (fun x _ hlt => hb.block x hlt) (fun _ h _ => h)) (by have:=hsm.2.2.2.2; omega))
 have HRT:=aa (show Calls Tryz.prog 9 #[.agg cs] (w.alloc (.cells cs 30)) (aq true _) by
  have:=ca M m S _ (h.keep hB.size (fun x _ hlt => hB.block x hlt) (fun _ h _ => h)) (ha.below hB); rwa [hr,<- hcs] at this)
 have hcn : on = M.controls.length:=hco.1
 have hoc : on <= oc:=hco.2.1
 have hom : oc <= 9223372036854775807:=by have:=hco.2.2.1; unfold maxLen at this; simp at this; omega
 have HTR:=aa (show (on = 0 -> M.tree = aI [tnum 2 M.id,t]) /\ (on ≠ 0 -> M.tree = aI [tnum 2 M.id,t,.mk 2 true 0 ⟨#[]⟩ (M.controls.map tctl)]) from
  ⟨fun e => by rw [ht]; exact tree_none M (List.eq_nil_of_length_eq_zero (by omega)),fun e => by rw [ht]; exact tree_some M (fun hn => e (by rw [hcn,hn]; rfl))⟩)
 obtain ⟨T,hT⟩ : ∃ T,T = M.tree:=⟨_,rfl⟩
 rw [<- hT] at HTR |-
 obtain ⟨cl,hcl⟩ : ∃ cl,cl = M.controls.map tctl:=⟨_,rfl⟩
 rw [<- hcl] at HTR HOF
 obtain ⟨id,hid'⟩ : ∃ id,id = M.id:=⟨_,rfl⟩
 rw [<- hid'] at c0 hid1 hid2 HTR
 have C30:=aa c30
 clear hcs hB h ha hr hms hm hco hid' hcn hT hcl ht hsm hid hg c30
 go_enter Tryz.func7,Tryz.ntmps7
 go_upto_region 3 with (first
  | (refine wpList_load_row rfl 30 (.tmp 1) rfl w.heap.size rfl 30 cs (0,0) _ HBK.out Tryz.underlying30 rfl (by rw [HSZ.out]; exact HS.out) ?_)
  | (go_at_call 9; refine HRT.out.mono ?_; rintro e w1 ⟨rfl,hb1⟩; have HBK1:=aa (af HBK.out hb1); have HB1:=aa (HB.out.trans (hb1.mono HB.out.size)); clear hb1)
  | fail)
 go_cut [4] from 8 to 14 (fun v wx => ∃ (g sb : Nat) (xs ys : List Value),v = .pointer (some ⟨g,0,none⟩) /\ EncN w wx cs g sb (tnum 2 id) t xs ys)
 case first =>
  have HBR:=aa (Below.refl w1.heap.size w1).drew
  have HNM:=aa (fun W => eO 2 id rfl W (by omega) (by omega))
  refine wp_region_held_drew (S:=fun W => Bk W w.heap.size 30 cs /\ Below w1.heap.size w1 W) (by kernel_rfl) ⟨af HBK1.out HBR.out,HBR.out⟩ (fun hHeld => ?_)
  refine wpAnyH_take (i:=0) (oi:={ dst:=some 8,op:=Op.fieldAddr 30 (Operand.tmp 1) 0,type:=0,pos:= "msg.go:266",after:=#[],guard:=none }) (v:=?_) rfl (by kernel_rfl) (by kernel_rfl) (by kernel_rfl) (fun _ _ _ h => h) (Or.inl ⟨by rfl,?_⟩) hHeld ?_
  rotate_left
  ·intro w0 hSw
   (try dsimp only at hSw)
   go_simp
   (try with_reducible rfl)
  try simp only [Act.put,List.setIfInBounds_toArray,List.set_cons_zero,List.set_cons_succ]
  refine wpAnyH_take (i:=1) (oi:={ dst:=some 9,op:=Op.load 3 (Operand.tmp 8),type:=3,pos:= "msg.go:266",after:=#[{ on:=0,ground:=Ground.data }],guard:=none }) (v:=?_) rfl (by kernel_rfl) (by kernel_rfl) (by kernel_rfl) (fun _ _ _ h => h) (Or.inl ⟨by rfl,?_⟩) hHeld ?_
  rotate_left
  ·intro w0 hSw
   (try dsimp only at hSw)
   have hs0 : w0.cell? ⟨w.heap.size,0,none⟩ = some (.int .i64 id):=(hSw.1.cell 0).trans c0
   go_simp
   (try with_reducible rfl)
  try simp only [Act.put,List.setIfInBounds_toArray,List.set_cons_zero,List.set_cons_succ]
  refine' wpAnyH_take (i:=3) (oi:={ dst:=some 11,op:=Op.load 30 (Operand.tmp 1),type:=30,pos:= "msg.go:266",after:=#[],guard:=none }) (v:=_) rfl (by kernel_rfl) (by kernel_rfl) (by kernel_rfl) (fun _ _ _ h => h) (yieldsIf_load_mid (by rfl) _ _ rfl w.heap.size 0 rfl cs.toList _ (fun W hW => range_of hW.1) Tryz.underlying30 rfl (by rw [show cs.toList.length = 31 by simpa using HSZ.out]; exact HS.out)) hHeld ?_
  try simp only [Act.put,List.setIfInBounds_toArray,List.set_cons_zero,List.set_cons_succ]
  refine wpAnyH_ready (rs:=[2,7]) (by kernel_rfl) (by simp) ?_
  refine AllReadyH.cons (o:={ dst:=some 10,op:=Op.call { callee:=Callee.value (Operand.func 19),args:=#[Operand.const (Value.int IntKind.i64 0),Operand.const (Value.int IntKind.i64 2),Operand.tmp 9],argTypes:=#[3,3,3] },type:=42,pos:= "msg.go:266",after:=#[{ on:=1,ground:=Ground.data }],guard:=none }) rfl (fun K hK => ?_) (AllReadyH.cons (o:={ dst:=some 4,op:=Op.alloc 42,type:=0,pos:= "msg.go:266",after:=#[],guard:=none }) rfl (fun K hK => ?_) AllReadyH.nil)
  ·go_simp
   (go_at_call 19)
   refine (HNM.out _).mono ?_
   rintro e w2 ⟨hb2,cs2,rfl,ht2⟩
   obtain ⟨x0,x1,x2,x3,xA,xn,xc,rfl⟩:=ak ht2
   have hbn2:=ag (W:=w1.drew) HBR.out hb2
   go_wp2_with fail
   refine hK.out _ _ ⟨af HBK1.out hbn2,hbn2⟩ (fun hHeld2 => ?_)
   clear hK K hHeld
   have hHeld:=hHeld2
   clear hHeld2
   try simp only [Act.put,List.setIfInBounds_toArray,List.set_cons_zero,List.set_cons_succ]
   refine wpAnyH_ready (rs:=[4,7]) (by kernel_rfl) (by simp) ?_
   refine AllReadyH.cons (o:={ dst:=some 12,op:=Op.call { callee:=Callee.value (Operand.func 20),args:=#[Operand.tmp 11],argTypes:=#[30] },type:=42,pos:= "msg.go:266",after:=#[{ on:=3,ground:=Ground.data },{ on:=2,ground:=Ground.chain }],guard:=none }) rfl (fun K hK => ?_) (AllReadyH.cons (o:={ dst:=some 4,op:=Op.alloc 42,type:=0,pos:= "msg.go:266",after:=#[],guard:=none }) rfl (fun K hK => ?_) AllReadyH.nil)
   ·go_simp
    (go_at_call 20)
    refine (HOP.out _ (HB1.out.trans (Below.mono hbn2 HB1.out.size))).mono ?_
    rintro e w3 ⟨hb3,cs3,rfl,ht3⟩
    obtain ⟨y0,y1,y2,y3,yA,yn,yc,rfl⟩:=ak ht3
    have hbn3:=ag (W:=w2) hbn2 hb3
    have h23 : Below w2.heap.size w2 w3:=hb3
    go_wp2_with fail
    refine hK.out _ _ ⟨af HBK1.out hbn3,hbn3⟩ (fun hHeld2 => ?_)
    clear hK K hHeld
    have hHeld:=hHeld2
    clear hHeld2
    try simp only [Act.put,List.setIfInBounds_toArray,List.set_cons_zero,List.set_cons_succ]
    refine wpAnyH_ready (rs:=[5,7]) (by kernel_rfl) (by simp) ?_
    refine AllReadyH.cons (o:={ dst:=some 13,op:=Op.buildSlice 40 2 #[(0,Operand.tmp 10),(1,Operand.tmp 12)],type:=40,pos:= "msg.go:266",after:=#[{ on:=2,ground:=Ground.data },{ on:=4,ground:=Ground.data }],guard:=none }) rfl (fun K hK => ?_) (AllReadyH.cons (o:={ dst:=some 4,op:=Op.alloc 42,type:=0,pos:= "msg.go:266",after:=#[],guard:=none }) rfl (fun K hK => ?_) AllReadyH.nil)
    ·go_simp
     refine hK.out _ _ ⟨af HBK1.out (bel1 hbn3 (.cells #[.int .i64 x0,.bool x1,.int .i64 x2,.string x3,.slice xA xn xc,.int .i64 y0,.bool y1,.int .i64 y2,.string y3,.slice yA yn yc] 42)),(bel1 hbn3 (.cells #[.int .i64 x0,.bool x1,.int .i64 x2,.string x3,.slice xA xn xc,.int .i64 y0,.bool y1,.int .i64 y2,.string y3,.slice yA yn yc] 42))⟩ (fun hHeld2 => ?_)
     clear hK K hHeld
     have hHeld:=hHeld2
     clear hHeld2
     try simp only [Act.put,List.setIfInBounds_toArray,List.set_cons_zero,List.set_cons_succ]
     refine wpAnyH_ready (rs:=[6,7]) (by kernel_rfl) (by simp) ?_
     refine AllReadyH.cons (o:={ dst:=some 14,op:=Op.call { callee:=Callee.value (Operand.func 18),args:=#[Operand.tmp 13],argTypes:=#[40] },type:=42,pos:= "msg.go:266",after:=#[{ on:=5,ground:=Ground.data },{ on:=4,ground:=Ground.chain }],guard:=none }) rfl (fun K hK => ?_) (AllReadyH.cons (o:={ dst:=some 4,op:=Op.alloc 42,type:=0,pos:= "msg.go:266",after:=#[],guard:=none }) rfl (fun K hK => ?_) AllReadyH.nil)
     ·go_simp
      (go_at_call 18)
      refine (bD _ _ _ _).mono ?_
      rintro e w4 ⟨rfl,hb4⟩
      have hsl4 : Bk w4 w3.heap.size 42 #[.int .i64 x0,.bool x1,.int .i64 x2,.string x3,.slice xA xn xc,.int .i64 y0,.bool y1,.int .i64 y2,.string y3,.slice yA yn yc]:=af (w:=(w3.alloc (.cells #[.int .i64 x0,.bool x1,.int .i64 x2,.string x3,.slice xA xn xc,.int .i64 y0,.bool y1,.int .i64 y2,.string y3,.slice yA yn yc] 42))) (Bk.new w3 42 #[.int .i64 x0,.bool x1,.int .i64 x2,.string x3,.slice xA xn xc,.int .i64 y0,.bool y1,.int .i64 y2,.string y3,.slice yA yn yc]) hb4
      have h34 : Below w3.heap.size w3 w4:=ag (W:=(w3.alloc (.cells #[.int .i64 x0,.bool x1,.int .i64 x2,.string x3,.slice xA xn xc,.int .i64 y0,.bool y1,.int .i64 y2,.string y3,.slice yA yn yc] 42))) (bel1 (Below.refl _ _) _) hb4
      have hbn4:=ag (W:=(w3.alloc (.cells #[.int .i64 x0,.bool x1,.int .i64 x2,.string x3,.slice xA xn xc,.int .i64 y0,.bool y1,.int .i64 y2,.string y3,.slice yA yn yc] 42))) (bel1 hbn3 (.cells #[.int .i64 x0,.bool x1,.int .i64 x2,.string x3,.slice xA xn xc,.int .i64 y0,.bool y1,.int .i64 y2,.string y3,.slice yA yn yc] 42)) hb4
      have hk3 : TlAt w4 (fun x => x ≠ w4.heap.size /\ x ≠ w3.heap.size) t _:=TlAt.below h34 _ _ (TlAt.keep (T:=fun x => x ≠ w4.heap.size /\ x ≠ w3.heap.size) (Nat.le_refl _) (fun _ _ _ => rfl) (fun x hx hlt => by have hx : w2.heap.size <= x:=hx; (try simp at hx); show x ≠ _ /\ x ≠ _; have:=h23.size; have:=h34.size; omega) _ _ ht3)
      have hsb : w3.heap.size ≠ w4.heap.size:=by have:=h23.size; have:=h34.size; have:=hsl4.lt; omega
      have HL2:=aa (aw ht2)
      have HK3:=aa hk3
      go_wp2_with fail
      refine hK.out _ _ ⟨af HBK1.out hbn4,hbn4⟩ (fun hHeld2 => ?_)
      clear hK K hHeld
      have hHeld:=hHeld2
      clear hHeld2
      try simp only [Act.put,List.setIfInBounds_toArray,List.set_cons_zero,List.set_cons_succ]
      refine wpAnyH_ready (rs:=[7]) (by kernel_rfl) (by simp) ?_
      refine AllReadyH.cons (o:={ dst:=some 4,op:=Op.alloc 42,type:=0,pos:= "msg.go:266",after:=#[],guard:=none }) rfl (fun K hK => ?_) AllReadyH.nil
      go_simp
      refine hK.out _ _ ⟨af HBK1.out (bel1 hbn4 (.cells #[.int .i64 0,.bool false,.int .i64 0,.string ⟨#[]⟩,.slice none 0 0] 42)),(bel1 hbn4 (.cells #[.int .i64 0,.bool false,.int .i64 0,.string ⟨#[]⟩,.slice none 0 0] 42))⟩ (fun hHeld2 => ?_)
      clear hK K hHeld
      have hHeld:=hHeld2
      clear hHeld2
      try simp only [Act.put,List.setIfInBounds_toArray,List.set_cons_zero,List.set_cons_succ]
      refine wpAnyH_ready (rs:=[8]) (by kernel_rfl) (by simp) ?_
      refine AllReadyH.cons (o:={ dst:=none,op:=Op.store 42 (Operand.tmp 4) (Operand.tmp 14),type:=0,pos:= "msg.go:266",after:=#[{ on:=7,ground:=Ground.data },{ on:=6,ground:=Ground.data },{ on:=6,ground:=Ground.chain },{ on:=0,ground:=Ground.phase },{ on:=1,ground:=Ground.phase },{ on:=2,ground:=Ground.phase },{ on:=3,ground:=Ground.phase },{ on:=4,ground:=Ground.phase },{ on:=5,ground:=Ground.phase },{ on:=6,ground:=Ground.phase },{ on:=7,ground:=Ground.phase }],guard:=none }) rfl (fun K hK => ?_) AllReadyH.nil
      go_simp
      have hbF:=(bel1 hbn4 (.cells #[.int .i64 0,.bool true,.int .i64 16,.string ⟨#[]⟩,.slice (some ⟨w3.heap.size,0,none⟩) 2 2] 42))
      refine hK.out _ _ ⟨af HBK1.out hbF,hbF⟩ (fun hHeld2 => ?_)
      clear hK K hHeld
      have hHeld:=hHeld2
      clear hHeld2
      try simp only [Act.put,List.setIfInBounds_toArray,List.set_cons_zero,List.set_cons_succ]
      refine wpAnyH_done (by kernel_rfl) ?_ _
      have hoF : Off [] w4 _:=(Off.refl [] w4).alloc (.cells #[.int .i64 0,.bool true,.int .i64 16,.string ⟨#[]⟩,.slice (some ⟨w3.heap.size,0,none⟩) 2 2] 42)
      have hlw1:=HBK1.out.lt
      have hsz2:=hbn2.size
      have hsz3:=hbn3.size
      have hsz4:=hbn4.size
      have hslt:=hsl4.lt
      have hgF : Bk (w4.alloc (.cells #[.int .i64 0,.bool true,.int .i64 16,.string ⟨#[]⟩,.slice (some ⟨w3.heap.size,0,none⟩) 2 2] 42)) w4.heap.size 42 #[.int .i64 0,.bool true,.int .i64 16,.string ⟨#[]⟩,.slice (some ⟨w3.heap.size,0,none⟩) 2 2]:=Bk.new w4 _ _
      have HEN:=aa (show EncN w _ cs w4.heap.size w3.heap.size (tnum 2 id) t [.int .i64 x0,.bool x1,.int .i64 x2,.string x3,.slice xA xn xc] [.int .i64 y0,.bool y1,.int .i64 y2,.string y3,.slice yA yn yc] from ⟨HB1.out.trans (hbF.mono HB1.out.size),af HBK1.out hbF,hgF,hoF.bk hsl4 (by simp),⟨rfl,HL2.out⟩,⟨rfl,TlAt.keep (T:=fun x => x ≠ w4.heap.size /\ x ≠ w3.heap.size) hoF.size (fun x hx hlt => hoF.block x hlt (by simp)) (fun x hx _ => hx) _ _ HK3.out⟩,⟨hsb,by omega,by omega⟩⟩)
      clear hHeld hoF hbF hsl4 hk3 hsb h23 h34 ht2 ht3 hgF HL2 HK3
      go_wp2_with fail
      go_meet
      exact ⟨_,_,_,_,rfl,HEN.out⟩
     ·go_simp
      refine hK.out _ _ ⟨af HBK1.out (bel1 (bel1 hbn3 (.cells #[.int .i64 x0,.bool x1,.int .i64 x2,.string x3,.slice xA xn xc,.int .i64 y0,.bool y1,.int .i64 y2,.string y3,.slice yA yn yc] 42)) (.cells #[.int .i64 0,.bool false,.int .i64 0,.string ⟨#[]⟩,.slice none 0 0] 42)),(bel1 (bel1 hbn3 (.cells #[.int .i64 x0,.bool x1,.int .i64 x2,.string x3,.slice xA xn xc,.int .i64 y0,.bool y1,.int .i64 y2,.string y3,.slice yA yn yc] 42)) (.cells #[.int .i64 0,.bool false,.int .i64 0,.string ⟨#[]⟩,.slice none 0 0] 42))⟩ (fun hHeld2 => ?_)
      clear hK K hHeld
      have hHeld:=hHeld2
      clear hHeld2
      try simp only [Act.put,List.setIfInBounds_toArray,List.set_cons_zero,List.set_cons_succ]
      refine wpAnyH_ready (rs:=[6]) (by kernel_rfl) (by simp) ?_
      refine AllReadyH.cons (o:={ dst:=some 14,op:=Op.call { callee:=Callee.value (Operand.func 18),args:=#[Operand.tmp 13],argTypes:=#[40] },type:=42,pos:= "msg.go:266",after:=#[{ on:=5,ground:=Ground.data },{ on:=4,ground:=Ground.chain }],guard:=none }) rfl (fun K hK => ?_) AllReadyH.nil
      go_simp
      (go_at_call 18)
      refine (bD _ _ _ _).mono ?_
      rintro e w4 ⟨rfl,hb4⟩
      have hsl4 : Bk w4 w3.heap.size 42 #[.int .i64 x0,.bool x1,.int .i64 x2,.string x3,.slice xA xn xc,.int .i64 y0,.bool y1,.int .i64 y2,.string y3,.slice yA yn yc]:=af (w:=((w3.alloc (.cells #[.int .i64 x0,.bool x1,.int .i64 x2,.string x3,.slice xA xn xc,.int .i64 y0,.bool y1,.int .i64 y2,.string y3,.slice yA yn yc] 42)).alloc (.cells #[.int .i64 0,.bool false,.int .i64 0,.string ⟨#[]⟩,.slice none 0 0] 42))) (Bk.alloc (Bk.new w3 42 #[.int .i64 x0,.bool x1,.int .i64 x2,.string x3,.slice xA xn xc,.int .i64 y0,.bool y1,.int .i64 y2,.string y3,.slice yA yn yc]) (.cells #[.int .i64 0,.bool false,.int .i64 0,.string ⟨#[]⟩,.slice none 0 0] 42)) hb4
      have h34 : Below w3.heap.size w3 w4:=ag (W:=((w3.alloc (.cells #[.int .i64 x0,.bool x1,.int .i64 x2,.string x3,.slice xA xn xc,.int .i64 y0,.bool y1,.int .i64 y2,.string y3,.slice yA yn yc] 42)).alloc (.cells #[.int .i64 0,.bool false,.int .i64 0,.string ⟨#[]⟩,.slice none 0 0] 42))) (bel2 (Below.refl _ _) _ _) hb4
      have hz4 : Bk w4 (w3.heap.size + 1) 42 #[.int .i64 0,.bool false,.int .i64 0,.string ⟨#[]⟩,.slice none 0 0]:=af (w:=((w3.alloc (.cells #[.int .i64 x0,.bool x1,.int .i64 x2,.string x3,.slice xA xn xc,.int .i64 y0,.bool y1,.int .i64 y2,.string y3,.slice yA yn yc] 42)).alloc (.cells #[.int .i64 0,.bool false,.int .i64 0,.string ⟨#[]⟩,.slice none 0 0] 42))) (show Bk ((w3.alloc (.cells #[.int .i64 x0,.bool x1,.int .i64 x2,.string x3,.slice xA xn xc,.int .i64 y0,.bool y1,.int .i64 y2,.string y3,.slice yA yn yc] 42)).alloc (.cells #[.int .i64 0,.bool false,.int .i64 0,.string ⟨#[]⟩,.slice none 0 0] 42)) (w3.heap.size + 1) 42 #[.int .i64 0,.bool false,.int .i64 0,.string ⟨#[]⟩,.slice none 0 0] by have h:=Bk.new (w3.alloc (.cells #[.int .i64 x0,.bool x1,.int .i64 x2,.string x3,.slice xA xn xc,.int .i64 y0,.bool y1,.int .i64 y2,.string y3,.slice yA yn yc] 42)) 42 #[.int .i64 0,.bool false,.int .i64 0,.string ⟨#[]⟩,.slice none 0 0]; simpa using h) hb4
      obtain ⟨z0,z1,z2,z3,z4⟩:=hz4.five
      have g0:=hz4.frozen 0
      have g1:=hz4.frozen 1
      have g2:=hz4.frozen 2
      have g3:=hz4.frozen 3
      have g4:=hz4.frozen 4
      have gl:=hz4.lt
      have hbn4:=ag (W:=((w3.alloc (.cells #[.int .i64 x0,.bool x1,.int .i64 x2,.string x3,.slice xA xn xc,.int .i64 y0,.bool y1,.int .i64 y2,.string y3,.slice yA yn yc] 42)).alloc (.cells #[.int .i64 0,.bool false,.int .i64 0,.string ⟨#[]⟩,.slice none 0 0] 42))) (bel1 (bel1 hbn3 (.cells #[.int .i64 x0,.bool x1,.int .i64 x2,.string x3,.slice xA xn xc,.int .i64 y0,.bool y1,.int .i64 y2,.string y3,.slice yA yn yc] 42)) (.cells #[.int .i64 0,.bool false,.int .i64 0,.string ⟨#[]⟩,.slice none 0 0] 42)) hb4
      have hk3 : TlAt w4 (fun x => x ≠ (w3.heap.size + 1) /\ x ≠ w3.heap.size) t _:=TlAt.below h34 _ _ (TlAt.keep (T:=fun x => x ≠ (w3.heap.size + 1) /\ x ≠ w3.heap.size) (Nat.le_refl _) (fun _ _ _ => rfl) (fun x hx hlt => by have hx : w2.heap.size <= x:=hx; (try simp at hx); show x ≠ _ /\ x ≠ _; have:=h23.size; have:=h34.size; omega) _ _ ht3)
      have hsb : w3.heap.size ≠ (w3.heap.size + 1):=by have:=h23.size; have:=h34.size; have:=hsl4.lt; omega
      have HL2:=aa (aw ht2)
      have HK3:=aa hk3
      go_wp2_with fail
      refine hK.out _ _ ⟨af HBK1.out hbn4,hbn4⟩ (fun hHeld2 => ?_)
      clear hK K hHeld
      have hHeld:=hHeld2
      clear hHeld2
      try simp only [Act.put,List.setIfInBounds_toArray,List.set_cons_zero,List.set_cons_succ]
      refine wpAnyH_ready (rs:=[8]) (by kernel_rfl) (by simp) ?_
      refine AllReadyH.cons (o:={ dst:=none,op:=Op.store 42 (Operand.tmp 4) (Operand.tmp 14),type:=0,pos:= "msg.go:266",after:=#[{ on:=7,ground:=Ground.data },{ on:=6,ground:=Ground.data },{ on:=6,ground:=Ground.chain },{ on:=0,ground:=Ground.phase },{ on:=1,ground:=Ground.phase },{ on:=2,ground:=Ground.phase },{ on:=3,ground:=Ground.phase },{ on:=4,ground:=Ground.phase },{ on:=5,ground:=Ground.phase },{ on:=6,ground:=Ground.phase },{ on:=7,ground:=Ground.phase }],guard:=none }) rfl (fun K hK => ?_) AllReadyH.nil
      go_simp
      have hbF:=(bel5 (b:=(w3.heap.size + 1)) hbn4 (by have:=hbn2.size; have:=hbn3.size; have:=hbn4.size; omega) (.int .i64 0) (.bool true) (.int .i64 16) (.string ⟨#[]⟩) (.slice (some ⟨w3.heap.size,0,none⟩) 2 2))
      refine hK.out _ _ ⟨af HBK1.out hbF,hbF⟩ (fun hHeld2 => ?_)
      clear hK K hHeld
      have hHeld:=hHeld2
      clear hHeld2
      try simp only [Act.put,List.setIfInBounds_toArray,List.set_cons_zero,List.set_cons_succ]
      refine wpAnyH_done (by kernel_rfl) ?_ _
      have hoF : Off [(w3.heap.size + 1)] w4 _:=(((((Off.refl [(w3.heap.size + 1)] w4).setCell (p:=⟨(w3.heap.size + 1),0,none⟩) (.inl (by simp)) (.int .i64 0)).setCell (p:=⟨(w3.heap.size + 1),1,none⟩) (.inl (by simp)) (.bool true)).setCell (p:=⟨(w3.heap.size + 1),2,none⟩) (.inl (by simp)) (.int .i64 16)).setCell (p:=⟨(w3.heap.size + 1),3,none⟩) (.inl (by simp)) (.string ⟨#[]⟩)).setCell (p:=⟨(w3.heap.size + 1),4,none⟩) (.inl (by simp)) (.slice (some ⟨w3.heap.size,0,none⟩) 2 2)
      have hlw1:=HBK1.out.lt
      have hsz2:=hbn2.size
      have hsz3:=hbn3.size
      have hsz4:=hbn4.size
      have hslt:=hsl4.lt
      have hgF:=((((hz4.put 0 (.int .i64 0)).put 1 (.bool true)).put 2 (.int .i64 16)).put 3 (.string ⟨#[]⟩)).put 4 (.slice (some ⟨w3.heap.size,0,none⟩) 2 2)
      simp only [List.setIfInBounds_toArray,List.set_cons_succ,List.set_cons_zero] at hgF
      have HEN:=aa (show EncN w _ cs (w3.heap.size + 1) w3.heap.size (tnum 2 id) t [.int .i64 x0,.bool x1,.int .i64 x2,.string x3,.slice xA xn xc] [.int .i64 y0,.bool y1,.int .i64 y2,.string y3,.slice yA yn yc] from ⟨HB1.out.trans (hbF.mono HB1.out.size),af HBK1.out hbF,hgF,hoF.bk hsl4 (by first | (simp; done) | simpa using hsb),⟨rfl,HL2.out⟩,⟨rfl,TlAt.keep (T:=fun x => x ≠ (w3.heap.size + 1) /\ x ≠ w3.heap.size) hoF.size (fun x hx hlt => hoF.block x hlt (by simpa using hx.1)) (fun x hx _ => hx) _ _ HK3.out⟩,⟨hsb,by omega,by omega⟩⟩)
      clear hHeld hoF hbF hsl4 hk3 hsb h23 h34 ht2 ht3 hgF HL2 HK3
      go_wp2_with fail
      go_meet
      exact ⟨_,_,_,_,rfl,HEN.out⟩
    ·go_simp
     refine hK.out _ _ ⟨af HBK1.out (bel1 hbn3 (.cells #[.int .i64 0,.bool false,.int .i64 0,.string ⟨#[]⟩,.slice none 0 0] 42)),(bel1 hbn3 (.cells #[.int .i64 0,.bool false,.int .i64 0,.string ⟨#[]⟩,.slice none 0 0] 42))⟩ (fun hHeld2 => ?_)
     clear hK K hHeld
     have hHeld:=hHeld2
     clear hHeld2
     try simp only [Act.put,List.setIfInBounds_toArray,List.set_cons_zero,List.set_cons_succ]
     refine wpAnyH_ready (rs:=[5]) (by kernel_rfl) (by simp) ?_
     refine AllReadyH.cons (o:={ dst:=some 13,op:=Op.buildSlice 40 2 #[(0,Operand.tmp 10),(1,Operand.tmp 12)],type:=40,pos:= "msg.go:266",after:=#[{ on:=2,ground:=Ground.data },{ on:=4,ground:=Ground.data }],guard:=none }) rfl (fun K hK => ?_) AllReadyH.nil
     go_simp
     refine hK.out _ _ ⟨af HBK1.out (bel1 (bel1 hbn3 (.cells #[.int .i64 0,.bool false,.int .i64 0,.string ⟨#[]⟩,.slice none 0 0] 42)) (.cells #[.int .i64 x0,.bool x1,.int .i64 x2,.string x3,.slice xA xn xc,.int .i64 y0,.bool y1,.int .i64 y2,.string y3,.slice yA yn yc] 42)),(bel1 (bel1 hbn3 (.cells #[.int .i64 0,.bool false,.int .i64 0,.string ⟨#[]⟩,.slice none 0 0] 42)) (.cells #[.int .i64 x0,.bool x1,.int .i64 x2,.string x3,.slice xA xn xc,.int .i64 y0,.bool y1,.int .i64 y2,.string y3,.slice yA yn yc] 42))⟩ (fun hHeld2 => ?_)
     clear hK K hHeld
     have hHeld:=hHeld2
     clear hHeld2
     try simp only [Act.put,List.setIfInBounds_toArray,List.set_cons_zero,List.set_cons_succ]
     refine wpAnyH_ready (rs:=[6]) (by kernel_rfl) (by simp) ?_
     refine AllReadyH.cons (o:={ dst:=some 14,op:=Op.call { callee:=Callee.value (Operand.func 18),args:=#[Operand.tmp 13],argTypes:=#[40] },type:=42,pos:= "msg.go:266",after:=#[{ on:=5,ground:=Ground.data },{ on:=4,ground:=Ground.chain }],guard:=none }) rfl (fun K hK => ?_) AllReadyH.nil
     go_simp
     (go_at_call 18)
     refine (bD _ _ _ _).mono ?_
     rintro e w4 ⟨rfl,hb4⟩
     have hsl4 : Bk w4 (w3.heap.size + 1) 42 #[.int .i64 x0,.bool x1,.int .i64 x2,.string x3,.slice xA xn xc,.int .i64 y0,.bool y1,.int .i64 y2,.string y3,.slice yA yn yc]:=af (w:=((w3.alloc (.cells #[.int .i64 0,.bool false,.int .i64 0,.string ⟨#[]⟩,.slice none 0 0] 42)).alloc (.cells #[.int .i64 x0,.bool x1,.int .i64 x2,.string x3,.slice xA xn xc,.int .i64 y0,.bool y1,.int .i64 y2,.string y3,.slice yA yn yc] 42))) (show Bk ((w3.alloc (.cells #[.int .i64 0,.bool false,.int .i64 0,.string ⟨#[]⟩,.slice none 0 0] 42)).alloc (.cells #[.int .i64 x0,.bool x1,.int .i64 x2,.string x3,.slice xA xn xc,.int .i64 y0,.bool y1,.int .i64 y2,.string y3,.slice yA yn yc] 42)) (w3.heap.size + 1) 42 #[.int .i64 x0,.bool x1,.int .i64 x2,.string x3,.slice xA xn xc,.int .i64 y0,.bool y1,.int .i64 y2,.string y3,.slice yA yn yc] by have h:=Bk.new (w3.alloc (.cells #[.int .i64 0,.bool false,.int .i64 0,.string ⟨#[]⟩,.slice none 0 0] 42)) 42 #[.int .i64 x0,.bool x1,.int .i64 x2,.string x3,.slice xA xn xc,.int .i64 y0,.bool y1,.int .i64 y2,.string y3,.slice yA yn yc]; simpa using h) hb4
     have h34 : Below w3.heap.size w3 w4:=ag (W:=((w3.alloc (.cells #[.int .i64 0,.bool false,.int .i64 0,.string ⟨#[]⟩,.slice none 0 0] 42)).alloc (.cells #[.int .i64 x0,.bool x1,.int .i64 x2,.string x3,.slice xA xn xc,.int .i64 y0,.bool y1,.int .i64 y2,.string y3,.slice yA yn yc] 42))) (bel2 (Below.refl _ _) _ _) hb4
     have hz4 : Bk w4 w3.heap.size 42 #[.int .i64 0,.bool false,.int .i64 0,.string ⟨#[]⟩,.slice none 0 0]:=af (w:=((w3.alloc (.cells #[.int .i64 0,.bool false,.int .i64 0,.string ⟨#[]⟩,.slice none 0 0] 42)).alloc (.cells #[.int .i64 x0,.bool x1,.int .i64 x2,.string x3,.slice xA xn xc,.int .i64 y0,.bool y1,.int .i64 y2,.string y3,.slice yA yn yc] 42))) (Bk.alloc (Bk.new w3 42 #[.int .i64 0,.bool false,.int .i64 0,.string ⟨#[]⟩,.slice none 0 0]) (.cells #[.int .i64 x0,.bool x1,.int .i64 x2,.string x3,.slice xA xn xc,.int .i64 y0,.bool y1,.int .i64 y2,.string y3,.slice yA yn yc] 42)) hb4
     obtain ⟨z0,z1,z2,z3,z4⟩:=hz4.five
     have g0:=hz4.frozen 0
     have g1:=hz4.frozen 1
     have g2:=hz4.frozen 2
     have g3:=hz4.frozen 3
     have g4:=hz4.frozen 4
     have gl:=hz4.lt
     have hbn4:=ag (W:=((w3.alloc (.cells #[.int .i64 0,.bool false,.int .i64 0,.string ⟨#[]⟩,.slice none 0 0] 42)).alloc (.cells #[.int .i64 x0,.bool x1,.int .i64 x2,.string x3,.slice xA xn xc,.int .i64 y0,.bool y1,.int .i64 y2,.string y3,.slice yA yn yc] 42))) (bel1 (bel1 hbn3 (.cells #[.int .i64 0,.bool false,.int .i64 0,.string ⟨#[]⟩,.slice none 0 0] 42)) (.cells #[.int .i64 x0,.bool x1,.int .i64 x2,.string x3,.slice xA xn xc,.int .i64 y0,.bool y1,.int .i64 y2,.string y3,.slice yA yn yc] 42)) hb4
     have hk3 : TlAt w4 (fun x => x ≠ w3.heap.size /\ x ≠ (w3.heap.size + 1)) t _:=TlAt.below h34 _ _ (TlAt.keep (T:=fun x => x ≠ w3.heap.size /\ x ≠ (w3.heap.size + 1)) (Nat.le_refl _) (fun _ _ _ => rfl) (fun x hx hlt => by have hx : w2.heap.size <= x:=hx; (try simp at hx); show x ≠ _ /\ x ≠ _; have:=h23.size; have:=h34.size; omega) _ _ ht3)
     have hsb : (w3.heap.size + 1) ≠ w3.heap.size:=by have:=h23.size; have:=h34.size; have:=hsl4.lt; omega
     have HL2:=aa (aw ht2)
     have HK3:=aa hk3
     go_wp2_with fail
     refine hK.out _ _ ⟨af HBK1.out hbn4,hbn4⟩ (fun hHeld2 => ?_)
     clear hK K hHeld
     have hHeld:=hHeld2
     clear hHeld2
     try simp only [Act.put,List.setIfInBounds_toArray,List.set_cons_zero,List.set_cons_succ]
     refine wpAnyH_ready (rs:=[8]) (by kernel_rfl) (by simp) ?_
     refine AllReadyH.cons (o:={ dst:=none,op:=Op.store 42 (Operand.tmp 4) (Operand.tmp 14),type:=0,pos:= "msg.go:266",after:=#[{ on:=7,ground:=Ground.data },{ on:=6,ground:=Ground.data },{ on:=6,ground:=Ground.chain },{ on:=0,ground:=Ground.phase },{ on:=1,ground:=Ground.phase },{ on:=2,ground:=Ground.phase },{ on:=3,ground:=Ground.phase },{ on:=4,ground:=Ground.phase },{ on:=5,ground:=Ground.phase },{ on:=6,ground:=Ground.phase },{ on:=7,ground:=Ground.phase }],guard:=none }) rfl (fun K hK => ?_) AllReadyH.nil
     go_simp
     have hbF:=(bel5 (b:=w3.heap.size) hbn4 (by have:=hbn2.size; have:=hbn3.size; have:=hbn4.size; omega) (.int .i64 0) (.bool true) (.int .i64 16) (.string ⟨#[]⟩) (.slice (some ⟨(w3.heap.size + 1),0,none⟩) 2 2))
     refine hK.out _ _ ⟨af HBK1.out hbF,hbF⟩ (fun hHeld2 => ?_)
     clear hK K hHeld
     have hHeld:=hHeld2
     clear hHeld2
     try simp only [Act.put,List.setIfInBounds_toArray,List.set_cons_zero,List.set_cons_succ]
     refine wpAnyH_done (by kernel_rfl) ?_ _
     have hoF : Off [w3.heap.size] w4 _:=(((((Off.refl [w3.heap.size] w4).setCell (p:=⟨w3.heap.size,0,none⟩) (.inl (by simp)) (.int .i64 0)).setCell (p:=⟨w3.heap.size,1,none⟩) (.inl (by simp)) (.bool true)).setCell (p:=⟨w3.heap.size,2,none⟩) (.inl (by simp)) (.int .i64 16)).setCell (p:=⟨w3.heap.size,3,none⟩) (.inl (by simp)) (.string ⟨#[]⟩)).setCell (p:=⟨w3.heap.size,4,none⟩) (.inl (by simp)) (.slice (some ⟨(w3.heap.size + 1),0,none⟩) 2 2)
     have hlw1:=HBK1.out.lt
     have hsz2:=hbn2.size
     have hsz3:=hbn3.size
     have hsz4:=hbn4.size
     have hslt:=hsl4.lt
     have hgF:=((((hz4.put 0 (.int .i64 0)).put 1 (.bool true)).put 2 (.int .i64 16)).put 3 (.string ⟨#[]⟩)).put 4 (.slice (some ⟨(w3.heap.size + 1),0,none⟩) 2 2)
     simp only [List.setIfInBounds_toArray,List.set_cons_succ,List.set_cons_zero] at hgF
     have HEN:=aa (show EncN w _ cs w3.heap.size (w3.heap.size + 1) (tnum 2 id) t [.int .i64 x0,.bool x1,.int .i64 x2,.string x3,.slice xA xn xc] [.int .i64 y0,.bool y1,.int .i64 y2,.string y3,.slice yA yn yc] from ⟨HB1.out.trans (hbF.mono HB1.out.size),af HBK1.out hbF,hgF,hoF.bk hsl4 (by first | (simp; done) | simpa using hsb),⟨rfl,HL2.out⟩,⟨rfl,TlAt.keep (T:=fun x => x ≠ w3.heap.size /\ x ≠ (w3.heap.size + 1)) hoF.size (fun x hx hlt => hoF.block x hlt (by simpa using hx.1)) (fun x hx _ => hx) _ _ HK3.out⟩,⟨hsb,by omega,by omega⟩⟩)
     clear hHeld hoF hbF hsl4 hk3 hsb h23 h34 ht2 ht3 hgF HL2 HK3
     go_wp2_with fail
     go_meet
     exact ⟨_,_,_,_,rfl,HEN.out⟩
   ·go_simp
    refine hK.out _ _ ⟨af HBK1.out (bel1 hbn2 (.cells #[.int .i64 0,.bool false,.int .i64 0,.string ⟨#[]⟩,.slice none 0 0] 42)),(bel1 hbn2 (.cells #[.int .i64 0,.bool false,.int .i64 0,.string ⟨#[]⟩,.slice none 0 0] 42))⟩ (fun hHeld2 => ?_)
    clear hK K hHeld
    have hHeld:=hHeld2
    clear hHeld2
    try simp only [Act.put,List.setIfInBounds_toArray,List.set_cons_zero,List.set_cons_succ]
    refine wpAnyH_ready (rs:=[4]) (by kernel_rfl) (by simp) ?_
    refine AllReadyH.cons (o:={ dst:=some 12,op:=Op.call { callee:=Callee.value (Operand.func 20),args:=#[Operand.tmp 11],argTypes:=#[30] },type:=42,pos:= "msg.go:266",after:=#[{ on:=3,ground:=Ground.data },{ on:=2,ground:=Ground.chain }],guard:=none }) rfl (fun K hK => ?_) AllReadyH.nil
    go_simp
    (go_at_call 20)
    refine (HOP.out _ (HB1.out.trans (Below.mono (bel1 hbn2 (.cells #[.int .i64 0,.bool false,.int .i64 0,.string ⟨#[]⟩,.slice none 0 0] 42)) HB1.out.size))).mono ?_
    rintro e w3 ⟨hb3,cs3,rfl,ht3⟩
    obtain ⟨y0,y1,y2,y3,yA,yn,yc,rfl⟩:=ak ht3
    have hbn3:=ag (W:=(w2.alloc (.cells #[.int .i64 0,.bool false,.int .i64 0,.string ⟨#[]⟩,.slice none 0 0] 42))) (bel1 hbn2 (.cells #[.int .i64 0,.bool false,.int .i64 0,.string ⟨#[]⟩,.slice none 0 0] 42)) hb3
    have h23 : Below w2.heap.size w2 w3:=ag (W:=(w2.alloc (.cells #[.int .i64 0,.bool false,.int .i64 0,.string ⟨#[]⟩,.slice none 0 0] 42))) (bel1 (Below.refl _ _) _) hb3
    have hz3 : Bk w3 w2.heap.size 42 #[.int .i64 0,.bool false,.int .i64 0,.string ⟨#[]⟩,.slice none 0 0]:=af (w:=(w2.alloc (.cells #[.int .i64 0,.bool false,.int .i64 0,.string ⟨#[]⟩,.slice none 0 0] 42))) (Bk.new w2 42 #[.int .i64 0,.bool false,.int .i64 0,.string ⟨#[]⟩,.slice none 0 0]) hb3
    go_wp2_with fail
    refine hK.out _ _ ⟨af HBK1.out hbn3,hbn3⟩ (fun hHeld2 => ?_)
    clear hK K hHeld
    have hHeld:=hHeld2
    clear hHeld2
    try simp only [Act.put,List.setIfInBounds_toArray,List.set_cons_zero,List.set_cons_succ]
    refine wpAnyH_ready (rs:=[5]) (by kernel_rfl) (by simp) ?_
    refine AllReadyH.cons (o:={ dst:=some 13,op:=Op.buildSlice 40 2 #[(0,Operand.tmp 10),(1,Operand.tmp 12)],type:=40,pos:= "msg.go:266",after:=#[{ on:=2,ground:=Ground.data },{ on:=4,ground:=Ground.data }],guard:=none }) rfl (fun K hK => ?_) AllReadyH.nil
    go_simp
    refine hK.out _ _ ⟨af HBK1.out (bel1 hbn3 (.cells #[.int .i64 x0,.bool x1,.int .i64 x2,.string x3,.slice xA xn xc,.int .i64 y0,.bool y1,.int .i64 y2,.string y3,.slice yA yn yc] 42)),(bel1 hbn3 (.cells #[.int .i64 x0,.bool x1,.int .i64 x2,.string x3,.slice xA xn xc,.int .i64 y0,.bool y1,.int .i64 y2,.string y3,.slice yA yn yc] 42))⟩ (fun hHeld2 => ?_)
    clear hK K hHeld
    have hHeld:=hHeld2
    clear hHeld2
    try simp only [Act.put,List.setIfInBounds_toArray,List.set_cons_zero,List.set_cons_succ]
    refine wpAnyH_ready (rs:=[6]) (by kernel_rfl) (by simp) ?_
    refine AllReadyH.cons (o:={ dst:=some 14,op:=Op.call { callee:=Callee.value (Operand.func 18),args:=#[Operand.tmp 13],argTypes:=#[40] },type:=42,pos:= "msg.go:266",after:=#[{ on:=5,ground:=Ground.data },{ on:=4,ground:=Ground.chain }],guard:=none }) rfl (fun K hK => ?_) AllReadyH.nil
    go_simp
    (go_at_call 18)
    refine (bD _ _ _ _).mono ?_
    rintro e w4 ⟨rfl,hb4⟩
    have hsl4 : Bk w4 w3.heap.size 42 #[.int .i64 x0,.bool x1,.int .i64 x2,.string x3,.slice xA xn xc,.int .i64 y0,.bool y1,.int .i64 y2,.string y3,.slice yA yn yc]:=af (w:=(w3.alloc (.cells #[.int .i64 x0,.bool x1,.int .i64 x2,.string x3,.slice xA xn xc,.int .i64 y0,.bool y1,.int .i64 y2,.string y3,.slice yA yn yc] 42))) (Bk.new w3 42 #[.int .i64 x0,.bool x1,.int .i64 x2,.string x3,.slice xA xn xc,.int .i64 y0,.bool y1,.int .i64 y2,.string y3,.slice yA yn yc]) hb4
    have h34 : Below w3.heap.size w3 w4:=ag (W:=(w3.alloc (.cells #[.int .i64 x0,.bool x1,.int .i64 x2,.string x3,.slice xA xn xc,.int .i64 y0,.bool y1,.int .i64 y2,.string y3,.slice yA yn yc] 42))) (bel1 (Below.refl _ _) _) hb4
    have hz4 : Bk w4 w2.heap.size 42 #[.int .i64 0,.bool false,.int .i64 0,.string ⟨#[]⟩,.slice none 0 0]:=af (w:=(w3.alloc (.cells #[.int .i64 x0,.bool x1,.int .i64 x2,.string x3,.slice xA xn xc,.int .i64 y0,.bool y1,.int .i64 y2,.string y3,.slice yA yn yc] 42))) (Bk.alloc hz3 (.cells #[.int .i64 x0,.bool x1,.int .i64 x2,.string x3,.slice xA xn xc,.int .i64 y0,.bool y1,.int .i64 y2,.string y3,.slice yA yn yc] 42)) hb4
    obtain ⟨z0,z1,z2,z3,z4⟩:=hz4.five
    have g0:=hz4.frozen 0
    have g1:=hz4.frozen 1
    have g2:=hz4.frozen 2
    have g3:=hz4.frozen 3
    have g4:=hz4.frozen 4
    have gl:=hz4.lt
    have hbn4:=ag (W:=(w3.alloc (.cells #[.int .i64 x0,.bool x1,.int .i64 x2,.string x3,.slice xA xn xc,.int .i64 y0,.bool y1,.int .i64 y2,.string y3,.slice yA yn yc] 42))) (bel1 hbn3 (.cells #[.int .i64 x0,.bool x1,.int .i64 x2,.string x3,.slice xA xn xc,.int .i64 y0,.bool y1,.int .i64 y2,.string y3,.slice yA yn yc] 42)) hb4
    have hk3 : TlAt w4 (fun x => x ≠ w2.heap.size /\ x ≠ w3.heap.size) t _:=TlAt.below h34 _ _ (TlAt.keep (T:=fun x => x ≠ w2.heap.size /\ x ≠ w3.heap.size) (Nat.le_refl _) (fun _ _ _ => rfl) (fun x hx hlt => by have hx : (w2.alloc (.cells #[.int .i64 0,.bool false,.int .i64 0,.string ⟨#[]⟩,.slice none 0 0] 42)).heap.size <= x:=hx; (try simp at hx); show x ≠ _ /\ x ≠ _; have:=h23.size; have:=h34.size; have:=hz3.lt; omega) _ _ ht3)
    have hsb : w3.heap.size ≠ w2.heap.size:=by have:=h23.size; have:=h34.size; have:=hz3.lt; have:=hsl4.lt; omega
    have HL2:=aa (aw ht2)
    have HK3:=aa hk3
    go_wp2_with fail
    refine hK.out _ _ ⟨af HBK1.out hbn4,hbn4⟩ (fun hHeld2 => ?_)
    clear hK K hHeld
    have hHeld:=hHeld2
    clear hHeld2
    try simp only [Act.put,List.setIfInBounds_toArray,List.set_cons_zero,List.set_cons_succ]
    refine wpAnyH_ready (rs:=[8]) (by kernel_rfl) (by simp) ?_
    refine AllReadyH.cons (o:={ dst:=none,op:=Op.store 42 (Operand.tmp 4) (Operand.tmp 14),type:=0,pos:= "msg.go:266",after:=#[{ on:=7,ground:=Ground.data },{ on:=6,ground:=Ground.data },{ on:=6,ground:=Ground.chain },{ on:=0,ground:=Ground.phase },{ on:=1,ground:=Ground.phase },{ on:=2,ground:=Ground.phase },{ on:=3,ground:=Ground.phase },{ on:=4,ground:=Ground.phase },{ on:=5,ground:=Ground.phase },{ on:=6,ground:=Ground.phase },{ on:=7,ground:=Ground.phase }],guard:=none }) rfl (fun K hK => ?_) AllReadyH.nil
    go_simp
    have hbF:=(bel5 (b:=w2.heap.size) hbn4 (by have:=hbn2.size; have:=hbn3.size; have:=hbn4.size; omega) (.int .i64 0) (.bool true) (.int .i64 16) (.string ⟨#[]⟩) (.slice (some ⟨w3.heap.size,0,none⟩) 2 2))
    refine hK.out _ _ ⟨af HBK1.out hbF,hbF⟩ (fun hHeld2 => ?_)
    clear hK K hHeld
    have hHeld:=hHeld2
    clear hHeld2
    try simp only [Act.put,List.setIfInBounds_toArray,List.set_cons_zero,List.set_cons_succ]
    refine wpAnyH_done (by kernel_rfl) ?_ _
    have hoF : Off [w2.heap.size] w4 _:=(((((Off.refl [w2.heap.size] w4).setCell (p:=⟨w2.heap.size,0,none⟩) (.inl (by simp)) (.int .i64 0)).setCell (p:=⟨w2.heap.size,1,none⟩) (.inl (by simp)) (.bool true)).setCell (p:=⟨w2.heap.size,2,none⟩) (.inl (by simp)) (.int .i64 16)).setCell (p:=⟨w2.heap.size,3,none⟩) (.inl (by simp)) (.string ⟨#[]⟩)).setCell (p:=⟨w2.heap.size,4,none⟩) (.inl (by simp)) (.slice (some ⟨w3.heap.size,0,none⟩) 2 2)
    have hlw1:=HBK1.out.lt
    have hsz2:=hbn2.size
    have hsz3:=hbn3.size
    have hsz4:=hbn4.size
    have hslt:=hsl4.lt
    have hgF:=((((hz4.put 0 (.int .i64 0)).put 1 (.bool true)).put 2 (.int .i64 16)).put 3 (.string ⟨#[]⟩)).put 4 (.slice (some ⟨w3.heap.size,0,none⟩) 2 2)
    simp only [List.setIfInBounds_toArray,List.set_cons_succ,List.set_cons_zero] at hgF
    have HEN:=aa (show EncN w _ cs w2.heap.size w3.heap.size (tnum 2 id) t [.int .i64 x0,.bool x1,.int .i64 x2,.string x3,.slice xA xn xc] [.int .i64 y0,.bool y1,.int .i64 y2,.string y3,.slice yA yn yc] from ⟨HB1.out.trans (hbF.mono HB1.out.size),af HBK1.out hbF,hgF,hoF.bk hsl4 (by first | (simp; done) | simpa using hsb),⟨rfl,HL2.out⟩,⟨rfl,TlAt.keep (T:=fun x => x ≠ w2.heap.size /\ x ≠ w3.heap.size) hoF.size (fun x hx hlt => hoF.block x hlt (by simpa using hx.1)) (fun x hx _ => hx) _ _ HK3.out⟩,⟨hsb,by omega,by omega⟩⟩)
    clear hHeld hoF hbF hsl4 hk3 hsb h23 h34 ht2 ht3 hgF HL2 HK3
    go_wp2_with fail
    go_meet
    exact ⟨_,_,_,_,rfl,HEN.out⟩
  ·go_simp
   refine hK.out _ _ ⟨af HBK1.out (bel1 HBR.out (.cells #[.int .i64 0,.bool false,.int .i64 0,.string ⟨#[]⟩,.slice none 0 0] 42)),(bel1 HBR.out (.cells #[.int .i64 0,.bool false,.int .i64 0,.string ⟨#[]⟩,.slice none 0 0] 42))⟩ (fun hHeld2 => ?_)
   clear hK K hHeld
   have hHeld:=hHeld2
   clear hHeld2
   try simp only [Act.put,List.setIfInBounds_toArray,List.set_cons_zero,List.set_cons_succ]
   refine wpAnyH_ready (rs:=[2]) (by kernel_rfl) (by simp) ?_
   refine AllReadyH.cons (o:={ dst:=some 10,op:=Op.call { callee:=Callee.value (Operand.func 19),args:=#[Operand.const (Value.int IntKind.i64 0),Operand.const (Value.int IntKind.i64 2),Operand.tmp 9],argTypes:=#[3,3,3] },type:=42,pos:= "msg.go:266",after:=#[{ on:=1,ground:=Ground.data }],guard:=none }) rfl (fun K hK => ?_) AllReadyH.nil
   go_simp
   (go_at_call 19)
   refine (HNM.out _).mono ?_
   rintro e w2 ⟨hb2,cs2,rfl,ht2⟩
   obtain ⟨x0,x1,x2,x3,xA,xn,xc,rfl⟩:=ak ht2
   have hbn2:=ag (W:=(w1.drew.alloc (.cells #[.int .i64 0,.bool false,.int .i64 0,.string ⟨#[]⟩,.slice none 0 0] 42))) (bel1 HBR.out (.cells #[.int .i64 0,.bool false,.int .i64 0,.string ⟨#[]⟩,.slice none 0 0] 42)) hb2
   have hz2 : Bk w2 w1.heap.size 42 #[.int .i64 0,.bool false,.int .i64 0,.string ⟨#[]⟩,.slice none 0 0]:=af (w:=(w1.drew.alloc (.cells #[.int .i64 0,.bool false,.int .i64 0,.string ⟨#[]⟩,.slice none 0 0] 42))) (Bk.new w1.drew 42 #[.int .i64 0,.bool false,.int .i64 0,.string ⟨#[]⟩,.slice none 0 0]) hb2
   go_wp2_with fail
   refine hK.out _ _ ⟨af HBK1.out hbn2,hbn2⟩ (fun hHeld2 => ?_)
   clear hK K hHeld
   have hHeld:=hHeld2
   clear hHeld2
   try simp only [Act.put,List.setIfInBounds_toArray,List.set_cons_zero,List.set_cons_succ]
   refine wpAnyH_ready (rs:=[4]) (by kernel_rfl) (by simp) ?_
   refine AllReadyH.cons (o:={ dst:=some 12,op:=Op.call { callee:=Callee.value (Operand.func 20),args:=#[Operand.tmp 11],argTypes:=#[30] },type:=42,pos:= "msg.go:266",after:=#[{ on:=3,ground:=Ground.data },{ on:=2,ground:=Ground.chain }],guard:=none }) rfl (fun K hK => ?_) AllReadyH.nil
   go_simp
   (go_at_call 20)
   refine (HOP.out _ (HB1.out.trans (Below.mono hbn2 HB1.out.size))).mono ?_
   rintro e w3 ⟨hb3,cs3,rfl,ht3⟩
   obtain ⟨y0,y1,y2,y3,yA,yn,yc,rfl⟩:=ak ht3
   have hbn3:=ag (W:=w2) hbn2 hb3
   have h23 : Below w2.heap.size w2 w3:=hb3
   have hz3 : Bk w3 w1.heap.size 42 #[.int .i64 0,.bool false,.int .i64 0,.string ⟨#[]⟩,.slice none 0 0]:=af (w:=w2) hz2 hb3
   go_wp2_with fail
   refine hK.out _ _ ⟨af HBK1.out hbn3,hbn3⟩ (fun hHeld2 => ?_)
   clear hK K hHeld
   have hHeld:=hHeld2
   clear hHeld2
   try simp only [Act.put,List.setIfInBounds_toArray,List.set_cons_zero,List.set_cons_succ]
   refine wpAnyH_ready (rs:=[5]) (by kernel_rfl) (by simp) ?_
   refine AllReadyH.cons (o:={ dst:=some 13,op:=Op.buildSlice 40 2 #[(0,Operand.tmp 10),(1,Operand.tmp 12)],type:=40,pos:= "msg.go:266",after:=#[{ on:=2,ground:=Ground.data },{ on:=4,ground:=Ground.data }],guard:=none }) rfl (fun K hK => ?_) AllReadyH.nil
   go_simp
   refine hK.out _ _ ⟨af HBK1.out (bel1 hbn3 (.cells #[.int .i64 x0,.bool x1,.int .i64 x2,.string x3,.slice xA xn xc,.int .i64 y0,.bool y1,.int .i64 y2,.string y3,.slice yA yn yc] 42)),(bel1 hbn3 (.cells #[.int .i64 x0,.bool x1,.int .i64 x2,.string x3,.slice xA xn xc,.int .i64 y0,.bool y1,.int .i64 y2,.string y3,.slice yA yn yc] 42))⟩ (fun hHeld2 => ?_)
   clear hK K hHeld
   have hHeld:=hHeld2
   clear hHeld2
   try simp only [Act.put,List.setIfInBounds_toArray,List.set_cons_zero,List.set_cons_succ]
   refine wpAnyH_ready (rs:=[6]) (by kernel_rfl) (by simp) ?_
   refine AllReadyH.cons (o:={ dst:=some 14,op:=Op.call { callee:=Callee.value (Operand.func 18),args:=#[Operand.tmp 13],argTypes:=#[40] },type:=42,pos:= "msg.go:266",after:=#[{ on:=5,ground:=Ground.data },{ on:=4,ground:=Ground.chain }],guard:=none }) rfl (fun K hK => ?_) AllReadyH.nil
   go_simp
   (go_at_call 18)
   refine (bD _ _ _ _).mono ?_
   rintro e w4 ⟨rfl,hb4⟩
   have hsl4 : Bk w4 w3.heap.size 42 #[.int .i64 x0,.bool x1,.int .i64 x2,.string x3,.slice xA xn xc,.int .i64 y0,.bool y1,.int .i64 y2,.string y3,.slice yA yn yc]:=af (w:=(w3.alloc (.cells #[.int .i64 x0,.bool x1,.int .i64 x2,.string x3,.slice xA xn xc,.int .i64 y0,.bool y1,.int .i64 y2,.string y3,.slice yA yn yc] 42))) (Bk.new w3 42 #[.int .i64 x0,.bool x1,.int .i64 x2,.string x3,.slice xA xn xc,.int .i64 y0,.bool y1,.int .i64 y2,.string y3,.slice yA yn yc]) hb4
   have h34 : Below w3.heap.size w3 w4:=ag (W:=(w3.alloc (.cells #[.int .i64 x0,.bool x1,.int .i64 x2,.string x3,.slice xA xn xc,.int .i64 y0,.bool y1,.int .i64 y2,.string y3,.slice yA yn yc] 42))) (bel1 (Below.refl _ _) _) hb4
   have hz4 : Bk w4 w1.heap.size 42 #[.int .i64 0,.bool false,.int .i64 0,.string ⟨#[]⟩,.slice none 0 0]:=af (w:=(w3.alloc (.cells #[.int .i64 x0,.bool x1,.int .i64 x2,.string x3,.slice xA xn xc,.int .i64 y0,.bool y1,.int .i64 y2,.string y3,.slice yA yn yc] 42))) (Bk.alloc hz3 (.cells #[.int .i64 x0,.bool x1,.int .i64 x2,.string x3,.slice xA xn xc,.int .i64 y0,.bool y1,.int .i64 y2,.string y3,.slice yA yn yc] 42)) hb4
   obtain ⟨z0,z1,z2,z3,z4⟩:=hz4.five
   have g0:=hz4.frozen 0
   have g1:=hz4.frozen 1
   have g2:=hz4.frozen 2
   have g3:=hz4.frozen 3
   have g4:=hz4.frozen 4
   have gl:=hz4.lt
   have hbn4:=ag (W:=(w3.alloc (.cells #[.int .i64 x0,.bool x1,.int .i64 x2,.string x3,.slice xA xn xc,.int .i64 y0,.bool y1,.int .i64 y2,.string y3,.slice yA yn yc] 42))) (bel1 hbn3 (.cells #[.int .i64 x0,.bool x1,.int .i64 x2,.string x3,.slice xA xn xc,.int .i64 y0,.bool y1,.int .i64 y2,.string y3,.slice yA yn yc] 42)) hb4
   have hk3 : TlAt w4 (fun x => x ≠ w1.heap.size /\ x ≠ w3.heap.size) t _:=TlAt.below h34 _ _ (TlAt.keep (T:=fun x => x ≠ w1.heap.size /\ x ≠ w3.heap.size) (Nat.le_refl _) (fun _ _ _ => rfl) (fun x hx hlt => by have hx : w2.heap.size <= x:=hx; (try simp at hx); show x ≠ _ /\ x ≠ _; have:=h23.size; have:=h34.size; have:=hz2.lt; omega) _ _ ht3)
   have hsb : w3.heap.size ≠ w1.heap.size:=by have:=h23.size; have:=h34.size; have:=hz2.lt; have:=hsl4.lt; omega
   have HL2:=aa (aw ht2)
   have HK3:=aa hk3
   go_wp2_with fail
   refine hK.out _ _ ⟨af HBK1.out hbn4,hbn4⟩ (fun hHeld2 => ?_)
   clear hK K hHeld
   have hHeld:=hHeld2
   clear hHeld2
   try simp only [Act.put,List.setIfInBounds_toArray,List.set_cons_zero,List.set_cons_succ]
   refine wpAnyH_ready (rs:=[8]) (by kernel_rfl) (by simp) ?_
   refine AllReadyH.cons (o:={ dst:=none,op:=Op.store 42 (Operand.tmp 4) (Operand.tmp 14),type:=0,pos:= "msg.go:266",after:=#[{ on:=7,ground:=Ground.data },{ on:=6,ground:=Ground.data },{ on:=6,ground:=Ground.chain },{ on:=0,ground:=Ground.phase },{ on:=1,ground:=Ground.phase },{ on:=2,ground:=Ground.phase },{ on:=3,ground:=Ground.phase },{ on:=4,ground:=Ground.phase },{ on:=5,ground:=Ground.phase },{ on:=6,ground:=Ground.phase },{ on:=7,ground:=Ground.phase }],guard:=none }) rfl (fun K hK => ?_) AllReadyH.nil
   go_simp
   have hbF:=(bel5 (b:=w1.heap.size) hbn4 (by have:=hbn2.size; have:=hbn3.size; have:=hbn4.size; omega) (.int .i64 0) (.bool true) (.int .i64 16) (.string ⟨#[]⟩) (.slice (some ⟨w3.heap.size,0,none⟩) 2 2))
   refine hK.out _ _ ⟨af HBK1.out hbF,hbF⟩ (fun hHeld2 => ?_)
   clear hK K hHeld
   have hHeld:=hHeld2
   clear hHeld2
   try simp only [Act.put,List.setIfInBounds_toArray,List.set_cons_zero,List.set_cons_succ]
   refine wpAnyH_done (by kernel_rfl) ?_ _
   have hoF : Off [w1.heap.size] w4 _:=(((((Off.refl [w1.heap.size] w4).setCell (p:=⟨w1.heap.size,0,none⟩) (.inl (by simp)) (.int .i64 0)).setCell (p:=⟨w1.heap.size,1,none⟩) (.inl (by simp)) (.bool true)).setCell (p:=⟨w1.heap.size,2,none⟩) (.inl (by simp)) (.int .i64 16)).setCell (p:=⟨w1.heap.size,3,none⟩) (.inl (by simp)) (.string ⟨#[]⟩)).setCell (p:=⟨w1.heap.size,4,none⟩) (.inl (by simp)) (.slice (some ⟨w3.heap.size,0,none⟩) 2 2)
   have hlw1:=HBK1.out.lt
   have hsz2:=hbn2.size
   have hsz3:=hbn3.size
   have hsz4:=hbn4.size
   have hslt:=hsl4.lt
   have hgF:=((((hz4.put 0 (.int .i64 0)).put 1 (.bool true)).put 2 (.int .i64 16)).put 3 (.string ⟨#[]⟩)).put 4 (.slice (some ⟨w3.heap.size,0,none⟩) 2 2)
   simp only [List.setIfInBounds_toArray,List.set_cons_succ,List.set_cons_zero] at hgF
   have HEN:=aa (show EncN w _ cs w1.heap.size w3.heap.size (tnum 2 id) t [.int .i64 x0,.bool x1,.int .i64 x2,.string x3,.slice xA xn xc] [.int .i64 y0,.bool y1,.int .i64 y2,.string y3,.slice yA yn yc] from ⟨HB1.out.trans (hbF.mono HB1.out.size),af HBK1.out hbF,hgF,hoF.bk hsl4 (by first | (simp; done) | simpa using hsb),⟨rfl,HL2.out⟩,⟨rfl,TlAt.keep (T:=fun x => x ≠ w1.heap.size /\ x ≠ w3.heap.size) hoF.size (fun x hx hlt => hoF.block x hlt (by simpa using hx.1)) (fun x hx _ => hx) _ _ HK3.out⟩,⟨hsb,by omega,by omega⟩⟩)
   clear hHeld hoF hbF hsl4 hk3 hsb h23 h34 ht2 ht3 hgF HL2 HK3
   go_wp2_with fail
   go_meet
   exact ⟨_,_,_,_,rfl,HEN.out⟩
 case rest =>
  obtain ⟨g,sb,xs,ys,rfl,hen⟩:=hcut
  have HEN:=aa hen
  have q30:=(hen.box.cell 30).trans C30.out
  have q30l:=hen.box.lt
  have e0:=hen.val.cell 0
  have e1:=hen.val.cell 1
  have e2:=hen.val.cell 2
  have e3:=hen.val.cell 3
  have e4:=hen.val.cell 4
  have elt:=hen.val.lt
  have f4:=hen.val.frozen 4
  obtain ⟨n1,n2,n3⟩:=hen.ne
  clear hen
  by_cases h0 : on = 0
  ·subst h0
   have HTT:=aa (show TlAt wc (fun _ => True) T _ by rw [HTR.out.1 rfl]; exact HEN.out.two)
   go_wp2_with (first
    | (go_at_call 23; refine (bv _ _ _ _ HTT.out).mono ?_; rintro e w5 ⟨hb5,rfl⟩; have HB5:=aa (HEN.out.below.trans (hb5.mono HEN.out.below.size)); clear hb5)
    | fail)
   go_ret2
   exact ⟨HB5.out,rfl⟩
  ·have z1 : decide ((0 : Int) < (on : Int)) = true:=ab (by omega)
   have z2 : 0 < on:=by omega
   have HNZ:=aa h0
   have HOWN:=aa HEN.out.own
   have hbl : sb < wc.heap.size:=HEN.out.row.lt
   have hww : w.heap.size <= wc.heap.size:=HEN.out.below.size
   have hne : ¬ (sb = g):=n1
   clear h0
   go_wp2_with fail
   go_region_law ((first
    | (go_simp; go_at_call 21; refine (HOF.out _ HEN.out.below.drew).mono ?_; rintro e w6 ⟨hb6,q6,rfl,hq6⟩; have hg6:=af HEN.out.val.drew hb6; have HQ6:=aa hq6; have y1 : w6.cell? ⟨g,4,none⟩ = some (.slice (some ⟨sb,0,none⟩) 2 2):=hg6.cell 4; have y2:=hg6.frozen 4; have y3:=hg6.lt; have HB6:=aa hb6; have hown6:=(Off.of_below hb6 []).own (World.ownsRow.drew HOWN.out) (by simp); have hs6:=hb6.size; clear hg6)
    | (refine step_append_lies _ ?g1 (.tmp 20) (.tmp 25) 40 ?g2 w.heap.size 42 i0 _ 5 64 Tryz.underlying40 hi iz0 iz1 iz2 ?q1 ?q2 (.slice (some ⟨sb,0,none⟩) 2 2) 2 (xs ++ ys) ?q3 (hown6.alloc _) ⟨w6.heap.size,0,none⟩ 1 1 [.int .i64 2,.bool true,.int .i64 0,.string ⟨#[]⟩,.slice q6.A q6.n q6.c] ?q5 ?q6 ?q7 ?q8 ?q9 ?q10 ?q11 ?q12 (w6.heap.size + 1) ?q13 ?_; (case g1 => (rfl)); (case g2 => (rfl)); (case q1 => (rfl)); (case q2 => (omega)); (case q3 => (rfl)); (case q5 => (rfl)); (case q6 => (rfl)); (case q7 => (exact World.news_of_block (cs:=#[.int .i64 2,.bool true,.int .i64 0,.string ⟨#[]⟩,.slice q6.A q6.n q6.c]) (heap_alloc_new w6 _))); (case q8 => (simp [Value.oneCell'])); (case q9 => (omega)); (case q10 => (unfold maxLen; omega)); (case q11 => (omega)); (case q12 => (simp at hs6 |-; omega)); (case q13 => (simp)); intro gg cap7 w7 hown7 hgrow7 hat7 hlt7; have hkg:=bC ⟨(aK y1 y2 y3 _).1,(aK y1 y2 y3 _).2⟩ hgrow7 (by simp [Value.ownBlock]; omega) (by simp; omega); have hkg1:=hkg.1; have hkg2:=hkg.2)
    | fail))
   all_goals
    have hN:=EncN.three HEN.out HB6.out (zs:=[.int .i64 2,.bool true,.int .i64 0,.string ⟨#[]⟩,.slice q6.A q6.n q6.c]) rfl (bX 2 0 true ⟨#[]⟩ HQ6.out rfl rfl (Nat.zero_le _)) hown7 hgrow7 hat7
    have HN1:=aa hN.1
    have d0:=hN.2.1.cell 0
    have d1:=hN.2.1.cell 1
    have d2:=hN.2.1.cell 2
    have d3:=hN.2.1.cell 3
    have d4:=hN.2.1.cell 4
    have dlt:=hN.2.1.lt
    have HTT:=aa (show TlAt _ (fun _ => True) T _ by rw [HTR.out.2 HNZ.out]; exact hN.2.2)
    clear hN hown7 hgrow7 hat7 hkg hkg1 hkg2 hown6 y1 y2 y3 e0 e1 e2 e3 e4 elt f4 q30
    go_wp2_with (first
     | (go_at_call 23; refine (bv _ _ _ _ HTT.out).mono ?_; rintro e w9 ⟨hb9,rfl⟩; have HB9:=aa (HN1.out.trans (hb9.mono HN1.out.size)); clear hb9)
     | fail)
    go_ret2
    exact ⟨HB9.out,rfl⟩
end Go.Proofs.YtbiglfpikfjbpaaGreatDoor
