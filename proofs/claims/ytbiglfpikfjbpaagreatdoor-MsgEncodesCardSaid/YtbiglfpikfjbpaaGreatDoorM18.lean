import Derived.Test.YtbiglfpikfjbpaaGreatDoorM17
import Derived.Test.YtbiglfpikfjbpaaGreatDoorM10
import Derived.Test.YtbiglfpikfjbpaaGreatDoorM12
import Derived.Test.YtbiglfpikfjbpaaGreatDoorM9
import Derived.Deep.RegionHeld3
namespace Go.Proofs.YtbiglfpikfjbpaaGreatDoor
open Go.RowKit
set_option maxRecDepth 100000
set_option linter.unusedVariables false
set_option linter.unusedSimpArgs false
set_option maxHeartbeats 40000000
theorem db (q q' : Rw) (ss : List ByteArray) (S S' : Nat -> Prop) (w : World) (h : SRow w S q ss) (h' : SRow w S' q' ss) : Calls Tryz.prog 47 #[.slice q.A q.n q.c,.slice q'.A q'.n q'.c] w (aq true w):=by
 obtain ⟨qA,qn,qc⟩:=q
 obtain ⟨rA,rn,rc⟩:=q'
 obtain ⟨h1,h2,h3,h4⟩:=h
 obtain ⟨k1,k2,k3,k4⟩:=h'
 simp only at h1 h2 h3 h4 k1 k2 k3 k4 |-
 subst h1 k1
 have H4:=aa h4
 have K4:=aa k4
 have hcm : qc <= 9223372036854775807:=by unfold maxLen at h3; omega
 have kcm : rc <= 9223372036854775807:=by unfold maxLen at k3; omega
 clear h4 h3 k4 k3
 go_enter Tryz.func47,Tryz.ntmps47
 go_wp2_with fail
 go_loopw [5] (fun i wr => ∃ (j : Nat),i = .int .i64 j /\ j <= ss.length /\ Below w.heap.size w wr) (fun i _ => ss.length - (intOf i).toNat)
 case atStart => exact ⟨0,rfl,Nat.zero_le _,Below.refl _ _⟩
 case round =>
  obtain ⟨j,rfl,hj,hbw⟩:=hrel
  have HBW:=aa hbw
  have HBD:=aa hbw.drew
  by_cases hlt : j < ss.length
  ·have z1 : decide ((j : Int) < (ss.length : Int)) = true:=ab (by omega)
   obtain ⟨b,o,c,rfl,hS,hcl,hc,hat,hsz⟩:=H4.out j ss[j] (List.getElem?_eq_getElem hlt)
   obtain ⟨b',o',c',rfl,hS',hcl',hc',hat',hsz'⟩:=K4.out j ss[j] (List.getElem?_eq_getElem hlt)
   subst hat hat'
   have q0 : wr.cell? ⟨b,o + j,none⟩ = some (.string ss[j]):=by have:=hc 0 _ rfl; rw [Nat.mul_one,Nat.add_zero] at this; exact (hbw.cell (p:=⟨b,o + j,none⟩) hS.2).trans this
   have q1 : wr.cell? ⟨b',o' + j,none⟩ = some (.string ss[j]):=by have:=hc' 0 _ rfl; rw [Nat.mul_one,Nat.add_zero] at this; exact (hbw.cell (p:=⟨b',o' + j,none⟩) hS'.2).trans this
   have hb1 : b < wr.heap.size:=Nat.lt_of_lt_of_le hS.2 hbw.size
   have hb2 : b' < wr.heap.size:=Nat.lt_of_lt_of_le hS'.2 hbw.size
   obtain ⟨s,hs⟩ : ∃ s,s = ss[j]:=⟨_,rfl⟩
   rw [<- hs] at q0 q1
   clear hc hS hs hcl hc' hS' hcl' hbw
   go_wp2_with fail
   go_region_held3 (fun W => W.cell? ⟨b,o + j,none⟩ = some (.string s) /\ W.cell? ⟨b',o' + j,none⟩ = some (.string s)) (exact ⟨q0,q1⟩) (fail)
   all_goals
    go_wp2_with fail
    go_roundw
    case rel => exact ⟨j + 1,by go_num,by omega,HBD.out⟩
    case measure => simp [intOf]; omega
  ·have z1 : decide ((j : Int) < (ss.length : Int)) = false:=ae (by omega)
   clear hbw
   go_wp2_with fail
   go_ret
   exact ah rfl HBW.out
theorem fsame_one (f : Fl) (c c' : List Value) (S S' : Nat -> Prop) (w : World) (h : FlAt w S f c) (h' : FlAt w S' f c')
  (ih : ∀ (k a v g any l kids),f = .mk k a v g any l kids -> ∀ y ∈ kids,∀ (c c' : List Value) (S S' : Nat -> Prop) (w : World),FlAt w S y c -> FlAt w S' y c' -> Calls Tryz.prog 46 #[.agg c.toArray,.agg c'.toArray] w (aq true w)) :
  Calls Tryz.prog 46 #[.agg c.toArray,.agg c'.toArray] w (aq true w):=by
 obtain ⟨k,a,v,g,any,l,kids⟩:=f
 have IH:=aa (ih k a v g any l kids rfl)
 clear ih
 unfold FlAt at h h'
 obtain ⟨⟨qA,qn,qc⟩,⟨rA,rn,rc⟩,rfl,-,⟨hq1,hq2,hq3,hq4⟩,⟨hr1,hr2,hr3⟩,hks⟩:=h
 obtain ⟨⟨qA',qn',qc'⟩,⟨rA',rn',rc'⟩,rfl,-,⟨hq1',hq2',hq3',hq4'⟩,⟨hr1',hr2',hr3'⟩,hks'⟩:=h'
 simp only at hq1 hq2 hq3 hq4 hr1 hr2 hr3 hks hq1' hq2' hq3' hq4' hr1' hr2' hr3' hks' |-
 subst hr1 hq1 hr1' hq1'
 obtain ⟨wa,hwa⟩ : ∃ W,W = w.alloc (.cells #[.int .i64 k,.string a,.string v,.string g,.slice qA any.length qc,.string l,.slice rA kids.length rc] 25):=⟨_,rfl⟩
 have hsa : wa.heap.size = w.heap.size + 1:=by rw [hwa]; simp
 have hba : Below w.heap.size w wa:=by rw [hwa]; exact (Below.refl w.heap.size w).alloc (Nat.le_refl _) _
 have hka : Bk wa w.heap.size 25 #[.int .i64 k,.string a,.string v,.string g,.slice qA any.length qc,.string l,.slice rA kids.length rc]:=by rw [hwa]; exact Bk.new w _ _
 obtain ⟨w1,hw1⟩ : ∃ W,W = wa.alloc (.cells #[.int .i64 k,.string a,.string v,.string g,.slice qA' any.length qc',.string l,.slice rA' kids.length rc'] 25):=⟨_,rfl⟩
 have hb1 : Below w.heap.size w w1:=by rw [hw1]; exact hba.alloc hba.size _
 have hk1 : Bk w1 w.heap.size 25 #[.int .i64 k,.string a,.string v,.string g,.slice qA any.length qc,.string l,.slice rA kids.length rc]:=by rw [hw1]; exact hka.alloc _
 have hg1 : Bk w1 (w.heap.size + 1) 25 #[.int .i64 k,.string a,.string v,.string g,.slice qA' any.length qc',.string l,.slice rA' kids.length rc']:=by rw [hw1,<- hsa]; exact Bk.new wa _ _
 have HB:=aa hb1
 have HK1:=aa hk1
 have HG1:=aa hg1
 have HW1:=aa (show w1 = (w.alloc (.cells #[.int .i64 k,.string a,.string v,.string g,.slice qA any.length qc,.string l,.slice rA kids.length rc] 25)).alloc (.cells #[.int .i64 k,.string a,.string v,.string g,.slice qA' any.length qc',.string l,.slice rA' kids.length rc'] 25) by rw [hw1,hwa])
 have hqm : qc <= 9223372036854775807:=by unfold maxLen at hq3; omega
 have hrm : rc <= 9223372036854775807:=by unfold maxLen at hr3; omega
 have hqm' : qc' <= 9223372036854775807:=by unfold maxLen at hq3'; omega
 have hrm' : rc' <= 9223372036854775807:=by unfold maxLen at hr3'; omega
 have HQ:=aa hq4
 have HK:=aa hks
 have HQ':=aa hq4'
 have HK':=aa hks'
 have t1 : (k != k) = false:=by simp
 clear hwa hsa hba hka hw1 hb1 hk1 hg1 hq4 hks hq3 hr3 hq4' hks' hq3' hr3'
 go_enter Tryz.func46,Tryz.ntmps46
 go_wp2_with fail
 rw [<- HW1.out]
 go_loopw [5] (fun i wr => ∃ (j : Nat),i = .int .i64 j /\ j <= any.length /\ Below w.heap.size w wr /\ Bk wr w.heap.size 25 #[.int .i64 k,.string a,.string v,.string g,.slice qA any.length qc,.string l,.slice rA kids.length rc] /\ Bk wr (w.heap.size + 1) 25 #[.int .i64 k,.string a,.string v,.string g,.slice qA' any.length qc',.string l,.slice rA' kids.length rc']) (fun i _ => any.length - (intOf i).toNat)
 case atStart => exact ⟨0,rfl,Nat.zero_le _,HB.out,HK1.out,HG1.out⟩
 case round =>
  obtain ⟨j,rfl,hj,hbw,hbk,hbg⟩:=hrel
  have HBW:=aa hbw
  have HBK:=aa hbk
  have HBG:=aa hbg
  have HBD:=aa hbw.drew
  have p4 : wr.cell? ⟨w.heap.size,4,none⟩ = some (.slice qA any.length qc):=hbk.cell 4
  have p4' : wr.cell? ⟨w.heap.size + 1,4,none⟩ = some (.slice qA' any.length qc'):=hbg.cell 4
  have p6 : wr.cell? ⟨w.heap.size,6,none⟩ = some (.slice rA kids.length rc):=hbk.cell 6
  have p6' : wr.cell? ⟨w.heap.size + 1,6,none⟩ = some (.slice rA' kids.length rc'):=hbg.cell 6
  have l1:=hbk.lt
  have l2:=hbg.lt
  by_cases hlt : j < any.length
  ·have z1 : decide ((j : Int) < (any.length : Int)) = true:=ab (by omega)
   obtain ⟨b,o,c,rfl,hS,hcl,hc,hat,hsz⟩:=HQ.out j any[j] (List.getElem?_eq_getElem hlt)
   obtain ⟨b',o',c',rfl,hS',hcl',hc',hat',hsz'⟩:=HQ'.out j any[j] (List.getElem?_eq_getElem hlt)
   subst hat hat'
   have q0 : wr.cell? ⟨b,o + j,none⟩ = some (.string any[j]):=by have:=hc 0 _ rfl; rw [Nat.mul_one,Nat.add_zero] at this; exact (hbw.cell (p:=⟨b,o + j,none⟩) hS.2).trans this
   have q1 : wr.cell? ⟨b',o' + j,none⟩ = some (.string any[j]):=by have:=hc' 0 _ rfl; rw [Nat.mul_one,Nat.add_zero] at this; exact (hbw.cell (p:=⟨b',o' + j,none⟩) hS'.2).trans this
   have hb1 : b < wr.heap.size:=Nat.lt_of_lt_of_le hS.2 hbw.size
   have hb2 : b' < wr.heap.size:=Nat.lt_of_lt_of_le hS'.2 hbw.size
   obtain ⟨s,hs⟩ : ∃ s,s = any[j]:=⟨_,rfl⟩
   rw [<- hs] at q0 q1
   clear hc hS hs hcl hc' hS' hcl' hbw hbk hbg
   go_wp2_with fail
   go_region_held3 (fun W => W.cell? ⟨w.heap.size,4,none⟩ = some (.slice (some ⟨b,o,none⟩) any.length qc) /\ W.cell? ⟨w.heap.size + 1,4,none⟩ = some (.slice (some ⟨b',o',none⟩) any.length qc') /\ W.cell? ⟨b,o + j,none⟩ = some (.string s) /\ W.cell? ⟨b',o' + j,none⟩ = some (.string s)) (exact ⟨p4,p4',q0,q1⟩) (fail)
   all_goals
    go_wp2_with fail
    go_roundw
    case rel => exact ⟨j + 1,by go_num,by omega,HBD.out,HBK.out,HBG.out⟩
    case measure => simp [intOf]; omega
  ·have z1 : decide ((j : Int) < (any.length : Int)) = false:=ae (by omega)
   clear hbw hbk hbg
   go_wp2_with fail
   obtain ⟨wx,hwx⟩ : ∃ W,W = wr:=⟨_,rfl⟩
   rw [<- hwx] at HBW HBK HBG |-
   clear HBD p4 p4' p6 p6' l1 l2 hlt hj z1
   go_loopw [6] (fun i wr => ∃ (j : Nat),i = .int .i64 j /\ j <= kids.length /\ Below w.heap.size w wr /\ Bk wr w.heap.size 25 #[.int .i64 k,.string a,.string v,.string g,.slice qA any.length qc,.string l,.slice rA kids.length rc] /\ Bk wr (w.heap.size + 1) 25 #[.int .i64 k,.string a,.string v,.string g,.slice qA' any.length qc',.string l,.slice rA' kids.length rc']) (fun i _ => kids.length - (intOf i).toNat)
   case atStart => exact ⟨0,rfl,Nat.zero_le _,HBW.out,HBK.out,HBG.out⟩
   case round =>
    obtain ⟨j,rfl,hj,hbw,hbk,hbg⟩:=hrel
    have HBW:=aa hbw
    have HBK:=aa hbk
    have HBG:=aa hbg
    have p6 : wr.cell? ⟨w.heap.size,6,none⟩ = some (.slice rA kids.length rc):=hbk.cell 6
    have p6' : wr.cell? ⟨w.heap.size + 1,6,none⟩ = some (.slice rA' kids.length rc'):=hbg.cell 6
    have l1:=hbk.lt
    have l2:=hbg.lt
    by_cases hlt : j < kids.length
    ·have z1 : decide ((j : Int) < (kids.length : Int)) = true:=ab (by omega)
     obtain ⟨b,o,c,rfl,hS,hc1,hcl,hfk⟩:=HK.out.get j kids[j] (List.getElem?_eq_getElem hlt)
     obtain ⟨b',o',c',rfl,hS',hc1',hcl',hfk'⟩:=HK'.out.get j kids[j] (List.getElem?_eq_getElem hlt)
     rw [Nat.zero_add] at hcl hcl'
     obtain ⟨y0,y1,y2,y3,y5,yA,yn,yc,zA,zn,zc,rfl⟩:=aY hfk
     obtain ⟨x0,x1,x2,x3,x5,xA,xn,xc,vA,vn,vc,rfl⟩:=aY hfk'
     have hbl : b < w.heap.size:=hS.2
     have hbl' : b' < w.heap.size:=hS'.2
     have hcw : ∀ o',wr.cell? ⟨b,o',none⟩ = w.cell? ⟨b,o',none⟩:=fun o' => hbw.cell (p:=⟨b,o',none⟩) hbl
     have hcw' : ∀ o,wr.cell? ⟨b',o,none⟩ = w.cell? ⟨b',o,none⟩:=fun o => hbw.cell (p:=⟨b',o,none⟩) hbl'
     have q0 : wr.cell? ⟨b,o + j * 7,none⟩ = some (.int .i64 y0):=(hcw _).trans (hcl 0 _ rfl)
     have q1 : wr.cell? ⟨b,o + j * 7 + 1,none⟩ = some (.string y1):=(hcw _).trans (hcl 1 _ rfl)
     have q2 : wr.cell? ⟨b,o + j * 7 + 2,none⟩ = some (.string y2):=(hcw _).trans (hcl 2 _ rfl)
     have q3 : wr.cell? ⟨b,o + j * 7 + 3,none⟩ = some (.string y3):=(hcw _).trans (hcl 3 _ rfl)
     have q4 : wr.cell? ⟨b,o + j * 7 + 4,none⟩ = some (.slice yA yn yc):=(hcw _).trans (hcl 4 _ rfl)
     have q5 : wr.cell? ⟨b,o + j * 7 + 5,none⟩ = some (.string y5):=(hcw _).trans (hcl 5 _ rfl)
     have q6 : wr.cell? ⟨b,o + j * 7 + 6,none⟩ = some (.slice zA zn zc):=(hcw _).trans (hcl 6 _ rfl)
     have r0 : wr.cell? ⟨b',o' + j * 7,none⟩ = some (.int .i64 x0):=(hcw' _).trans (hcl' 0 _ rfl)
     have r1 : wr.cell? ⟨b',o' + j * 7 + 1,none⟩ = some (.string x1):=(hcw' _).trans (hcl' 1 _ rfl)
     have r2 : wr.cell? ⟨b',o' + j * 7 + 2,none⟩ = some (.string x2):=(hcw' _).trans (hcl' 2 _ rfl)
     have r3 : wr.cell? ⟨b',o' + j * 7 + 3,none⟩ = some (.string x3):=(hcw' _).trans (hcl' 3 _ rfl)
     have r4 : wr.cell? ⟨b',o' + j * 7 + 4,none⟩ = some (.slice xA xn xc):=(hcw' _).trans (hcl' 4 _ rfl)
     have r5 : wr.cell? ⟨b',o' + j * 7 + 5,none⟩ = some (.string x5):=(hcw' _).trans (hcl' 5 _ rfl)
     have r6 : wr.cell? ⟨b',o' + j * 7 + 6,none⟩ = some (.slice vA vn vc):=(hcw' _).trans (hcl' 6 _ rfl)
     have hbr : b < wr.heap.size:=Nat.lt_of_lt_of_le hbl hbw.size
     have hbr' : b' < wr.heap.size:=Nat.lt_of_lt_of_le hbl' hbw.size
     have L1:=aa l1
     have L2:=aa l2
     have HKS:=aa fun (W : World) (hb : Below wr.heap.size wr W) => (show W.cell? ⟨w.heap.size,6,none⟩ = some (.slice (some ⟨b,o,none⟩) kids.length rc) /\ W.cell? ⟨w.heap.size + 1,6,none⟩ = some (.slice (some ⟨b',o',none⟩) kids.length rc') /\ W.cell? ⟨b,o + j * 7,none⟩ = some (.int .i64 y0) /\ W.cell? ⟨b,o + j * 7 + 1,none⟩ = some (.string y1) /\ W.cell? ⟨b,o + j * 7 + 2,none⟩ = some (.string y2) /\ W.cell? ⟨b,o + j * 7 + 3,none⟩ = some (.string y3) /\ W.cell? ⟨b,o + j * 7 + 4,none⟩ = some (.slice yA yn yc) /\ W.cell? ⟨b,o + j * 7 + 5,none⟩ = some (.string y5) /\ W.cell? ⟨b,o + j * 7 + 6,none⟩ = some (.slice zA zn zc) /\ W.cell? ⟨b',o' + j * 7,none⟩ = some (.int .i64 x0) /\ W.cell? ⟨b',o' + j * 7 + 1,none⟩ = some (.string x1) /\ W.cell? ⟨b',o' + j * 7 + 2,none⟩ = some (.string x2) /\ W.cell? ⟨b',o' + j * 7 + 3,none⟩ = some (.string x3) /\ W.cell? ⟨b',o' + j * 7 + 4,none⟩ = some (.slice xA xn xc) /\ W.cell? ⟨b',o' + j * 7 + 5,none⟩ = some (.string x5) /\ W.cell? ⟨b',o' + j * 7 + 6,none⟩ = some (.slice vA vn vc) /\ Below wr.heap.size wr W from ⟨(hb.cell (p:=⟨w.heap.size,6,none⟩) L1.out).trans p6,(hb.cell (p:=⟨w.heap.size + 1,6,none⟩) L2.out).trans p6',(hb.cell (p:=⟨b,o + j * 7,none⟩) hbr).trans q0,(hb.cell (p:=⟨b,o + j * 7 + 1,none⟩) hbr).trans q1,(hb.cell (p:=⟨b,o + j * 7 + 2,none⟩) hbr).trans q2,(hb.cell (p:=⟨b,o + j * 7 + 3,none⟩) hbr).trans q3,(hb.cell (p:=⟨b,o + j * 7 + 4,none⟩) hbr).trans q4,(hb.cell (p:=⟨b,o + j * 7 + 5,none⟩) hbr).trans q5,(hb.cell (p:=⟨b,o + j * 7 + 6,none⟩) hbr).trans q6,(hb.cell (p:=⟨b',o' + j * 7,none⟩) hbr').trans r0,(hb.cell (p:=⟨b',o' + j * 7 + 1,none⟩) hbr').trans r1,(hb.cell (p:=⟨b',o' + j * 7 + 2,none⟩) hbr').trans r2,(hb.cell (p:=⟨b',o' + j * 7 + 3,none⟩) hbr').trans r3,(hb.cell (p:=⟨b',o' + j * 7 + 4,none⟩) hbr').trans r4,(hb.cell (p:=⟨b',o' + j * 7 + 5,none⟩) hbr').trans r5,(hb.cell (p:=⟨b',o' + j * 7 + 6,none⟩) hbr').trans r6,hb⟩)
     have HBR:=aa (Below.refl wr.heap.size wr).drew
     have HC:=aa fun (W : World) (hb : Below wr.heap.size wr W) => IH.out kids[j] (List.getElem_mem hlt) _ _ S S' W (FlAt.keep (T:=S) (hbw.trans (hb.mono hbw.size)).size (fun x _ hlt => (hbw.trans (hb.mono hbw.size)).block x hlt) (fun _ h _ => h) _ _ hfk) (FlAt.keep (T:=S') (hbw.trans (hb.mono hbw.size)).size (fun x _ hlt => (hbw.trans (hb.mono hbw.size)).block x hlt) (fun _ h _ => h) _ _ hfk')
     clear hS hc1 hcl hfk hcw hS' hc1' hcl' hfk' hcw' hbw hbk hbg
     go_wp2_with fail
     go_region_held3 (fun W => W.cell? ⟨w.heap.size,6,none⟩ = some (.slice (some ⟨b,o,none⟩) kids.length rc) /\ W.cell? ⟨w.heap.size + 1,6,none⟩ = some (.slice (some ⟨b',o',none⟩) kids.length rc') /\ W.cell? ⟨b,o + j * 7,none⟩ = some (.int .i64 y0) /\ W.cell? ⟨b,o + j * 7 + 1,none⟩ = some (.string y1) /\ W.cell? ⟨b,o + j * 7 + 2,none⟩ = some (.string y2) /\ W.cell? ⟨b,o + j * 7 + 3,none⟩ = some (.string y3) /\ W.cell? ⟨b,o + j * 7 + 4,none⟩ = some (.slice yA yn yc) /\ W.cell? ⟨b,o + j * 7 + 5,none⟩ = some (.string y5) /\ W.cell? ⟨b,o + j * 7 + 6,none⟩ = some (.slice zA zn zc) /\ W.cell? ⟨b',o' + j * 7,none⟩ = some (.int .i64 x0) /\ W.cell? ⟨b',o' + j * 7 + 1,none⟩ = some (.string x1) /\ W.cell? ⟨b',o' + j * 7 + 2,none⟩ = some (.string x2) /\ W.cell? ⟨b',o' + j * 7 + 3,none⟩ = some (.string x3) /\ W.cell? ⟨b',o' + j * 7 + 4,none⟩ = some (.slice xA xn xc) /\ W.cell? ⟨b',o' + j * 7 + 5,none⟩ = some (.string x5) /\ W.cell? ⟨b',o' + j * 7 + 6,none⟩ = some (.slice vA vn vc) /\ Below wr.heap.size wr W) (first | (with_reducible exact HKS.out _ HBR.out) | (with_reducible exact HKS.out _ (by assumption)))
      (first
       | (go_at_call 46; refine (HC.out _ HBR.out).mono ?_; rintro e w2 ⟨rfl,hb2⟩; have hn2:=ag HBR.out hb2)
       | fail)
     all_goals
      have hbw2:=HBW.out.trans (hn2.mono HBW.out.size)
      have hbk2:=af HBK.out hn2
      have hbg2:=af HBG.out hn2
      go_wp2_with fail
      go_roundw
      case rel => exact ⟨j + 1,by go_num,by omega,hbw2,hbk2,hbg2⟩
      case measure => simp [intOf]; omega
    ·have z1 : decide ((j : Int) < (kids.length : Int)) = false:=ae (by omega)
     clear hbw hbk hbg
     go_wp2_with fail
     go_ret
     exact ah rfl HBW.out
mutual
theorem eI : ∀ (f : Fl) (c c' : List Value) (S S' : Nat -> Prop) (w : World),FlAt w S f c -> FlAt w S' f c' -> Calls Tryz.prog 46 #[.agg c.toArray,.agg c'.toArray] w (aq true w)
 | .mk k a v g any l kids,c,c',S,S',w,h,h' => fsame_one _ c c' S S' w h h' fun k2 a2 v2 g2 any2 l2 kids2 e => by
  have h7 : kids = kids2:=by injection e
  have ih:=fsames_any kids
  rw [<- h7]
  exact ih
theorem fsames_any : ∀ (ks : List Fl),∀ y ∈ ks,∀ (c c' : List Value) (S S' : Nat -> Prop) (w : World),FlAt w S y c -> FlAt w S' y c' -> Calls Tryz.prog 46 #[.agg c.toArray,.agg c'.toArray] w (aq true w)
 | [],y,hy,_,_,_,_,_,_,_ => by cases hy
 | k :: ks,y,hy,c,c',S,S',w,h,h' => by
  have h1:=eI k
  have h2:=fsames_any ks
  rcases List.mem_cons.1 hy with rfl | hy
  ·exact h1 c c' S S' w h h'
  ·exact h2 y hy c c' S S' w h h'
end
end Go.Proofs.YtbiglfpikfjbpaaGreatDoor
