import Derived.Test.YtbiglfpikfjbpaaGreatDoorM35
namespace Go.Proofs.YtbiglfpikfjbpaaGreatDoor
open Go.RowKit
set_option maxRecDepth 100000
set_option linter.unusedVariables false
set_option linter.unusedSimpArgs false
set_option maxHeartbeats 40000000
def wS (l : List ByteArray) : Nat:=(l.map fun s => 1 + s.size).sum
theorem eA {α : Type} (f : α -> Nat) {l : List α} {j : Nat} {x : α} (h : l[j]? = some x) : ((l.take (j + 1)).map f).sum = ((l.take j).map f).sum + f x:=by
 rw [List.take_add_one,h]
 simp
theorem wS_more {l : List ByteArray} {j : Nat} {x : ByteArray} (h : l[j]? = some x) : wS (l.take (j + 1)) = wS (l.take j) + (1 + x.size):=eA _ h
def atW (a : At) : Nat:=1 + a.1.size + wS a.2
def mdW (a : Md) : Nat:=1 + a.2.1.size + wS a.2.2
def coW (a : Co) : Nat:=1 + a.1.size + a.2.2.2.size
def wA (l : List At) : Nat:=(l.map atW).sum
def wM (l : List Md) : Nat:=(l.map mdW).sum
def wC (l : List Co) : Nat:=(l.map coW).sum
mutual
def Fl.wt : Fl -> Nat
 | .mk _ a v g any l kids => 1 + a.size + v.size + g.size + l.size + wS any + Fl.wts kids
def Fl.wts : List Fl -> Nat
 | [] => 0
 | k :: ks => k.wt + Fl.wts ks
end
theorem Fl.wts_app : ∀ (a b : List Fl),Fl.wts (a ++ b) = Fl.wts a + Fl.wts b
 | [],b => by simp [Fl.wts]
 | k :: a,b => by rw [List.cons_append,Fl.wts,Fl.wts,Fl.wts_app a b]; omega
theorem Fl.wts_more {l : List Fl} {j : Nat} {x : Fl} (h : l[j]? = some x) : Fl.wts (l.take (j + 1)) = Fl.wts (l.take j) + x.wt:=by
 rw [List.take_add_one,h,Fl.wts_app]
 simp [Fl.wts]
def Ms.wt (M : Ms) : Nat:=M.name.size + M.secret.size + M.kind.size + M.value.size + M.text.size + M.rdn.size + wS M.attrs + wS M.dest + wA M.list + wM M.mods + wC M.controls
def WvPost2 (n : Int) (name : ByteArray) (ss : List ByteArray) (w : World) (e : Ending) (w' : World) : Prop:=w = w' /\ ∃ k : Int,e = .returned (.int .i64 k) /\ n < k /\ k <= 80002 /\ Hid (k <= 40000 -> n + ((1 + name.size + wS ss : Nat) : Int) <= k)
theorem ck (s : ByteArray) (h : s.size <= maxLen) : ∃ x : Int,(if (40001 : Int) < (s.size : Int) then 40001 else (s.size : Int)) = x /\ 0 <= x /\ x <= 40001 /\ Hid (x <= 40000 -> (s.size : Int) <= x):=by
 refine ⟨_,rfl,?_,?_,?_⟩
 ·split <;> omega
 ·split <;> omega
 ·unfold Hid; split <;> omega
theorem values2_any (name : ByteArray) (q : Rw) (ss : List ByteArray) (n : Int) (S : Nat -> Prop) (w : World) (h : SRow w S q ss) (hz : name.size <= maxLen) (hn1 : 0 <= n) (hn2 : n <= 40000) :
  Calls Tryz.prog 16 #[.string name,.slice q.A q.n q.c,.int .i64 n] w (WvPost2 n name ss w):=by
 obtain ⟨qA,qn,qc⟩:=q
 obtain ⟨h1,h2,h3,h4⟩:=h
 simp only at h1 h2 h3 h4 |-
 subst h1
 have H4:=aa h4
 have hcm : qc <= 9223372036854775807:=by unfold maxLen at h3; omega
 obtain ⟨x,hx,hx1,hx2,HXN⟩:=ck name hz
 clear h4 h3
 go_enter Tryz.func16,Tryz.ntmps16
 go_wp2_with fail
 go_loopw [2,7] (fun u i wr => ∃ (j : Nat) (k : Int),i = .int .i64 j /\ u = .int .i64 k /\ j <= ss.length /\ n < k /\ k <= 80002 /\ Hid (k <= 40000 -> n + ((1 + name.size + wS (ss.take j) : Nat) : Int) <= k) /\ wr = w) (fun _ i _ => ss.length - (intOf i).toNat)
 case atStart => exact ⟨0,n + 1 + x,rfl,by go_num,Nat.zero_le _,by omega,by omega,by unfold Hid; intro hh; have h1:=HXN.out (by omega); simp [wS]; omega,by first | rfl | trivial⟩
 case round =>
  obtain ⟨j,k,rfl,rfl,hj,hk1,hk2,HK3,rfl⟩:=hrel
  by_cases hlt : j < ss.length
  ·have z1 : decide ((j : Int) < (ss.length : Int)) = true:=ab (by omega)
   by_cases hk : k <= 40000
   ·have z2 : decide (k <= 40000) = true:=ab hk
    obtain ⟨b,o,c,rfl,hS,hcl,hc,hat,hsz⟩:=H4.out j ss[j] (List.getElem?_eq_getElem hlt)
    subst hat
    have q0 : wr.cell? ⟨b,o + j,none⟩ = some (.string ss[j]):=by have:=hc 0 _ rfl; rw [Nat.mul_one,Nat.add_zero] at this; exact this
    have hbw:=hS.2
    have hgx : ss[j]? = some ss[j]:=List.getElem?_eq_getElem hlt
    obtain ⟨s,hs⟩ : ∃ s,s = ss[j]:=⟨_,rfl⟩
    rw [<- hs] at q0 hsz hgx
    have HGX:=aa (wS_more hgx)
    obtain ⟨y,hy,hy1,hy2,HY⟩:=ck s hsz
    clear hc hS hs hcl hgx
    go_wp2_with fail
    go_roundw
    case rel => exact ⟨j + 1,k + 1 + y,by go_num,by go_num,by omega,by omega,by omega,by unfold Hid; intro hh; have h1:=HK3.out hk; have h2:=HY.out (by omega); have h3:=HGX.out; omega,by first | rfl | trivial⟩
    case measure => simp [intOf]; omega
   ·have z2 : decide (k <= 40000) = false:=ae hk
    go_wp2_with fail
    go_ret
    exact ⟨rfl,k,rfl,hk1,hk2,by unfold Hid; intro h; omega⟩
  ·have z1 : decide ((j : Int) < (ss.length : Int)) = false:=ae (by omega)
   go_wp2_with fail
   go_ret
   exact ⟨rfl,k,rfl,hk1,hk2,by unfold Hid; intro h; have h1:=HK3.out h; rw [List.take_of_length_le (by omega)] at h1; exact h1⟩
theorem dT (s : ByteArray) (h : s.size <= maxLen) : ∃ x : Int,(if (5001 : Int) < (s.size : Int) then 5001 else (s.size : Int)) = x /\ 0 <= x /\ x <= 5001 /\ Hid (x <= 5000 -> (s.size : Int) <= x):=by
 refine ⟨_,rfl,?_,?_,?_⟩
 ·split <;> omega
 ·split <;> omega
 ·unfold Hid; split <;> omega
def FwPost2 (f : Fl) (n : Int) (w : World) (e : Ending) (w' : World) : Prop:=Below w.heap.size w w' /\ ∃ k : Int,e = .returned (.int .i64 k) /\ 0 <= k /\ k <= 25005 /\ Hid (k <= 5000 -> n + (f.wt : Int) <= k)
theorem fweigh2_one (f : Fl) (c : List Value) (S : Nat -> Prop) (n d : Int) (w : World) (h : FlAt w S f c) (hn : 0 <= n /\ n <= 5000) (hd : 0 <= d /\ d <= 61)
  (ih : ∀ (k a v g any l kids),f = .mk k a v g any l kids -> ∀ y ∈ kids,∀ (c : List Value) (S : Nat -> Prop) (n d : Int) (w : World),FlAt w S y c -> 0 <= n /\ n <= 5000 -> 0 <= d /\ d <= 61 -> Calls Tryz.prog 50 #[.agg c.toArray,.int .i64 n,.int .i64 d] w (FwPost2 y n w)) :
  Calls Tryz.prog 50 #[.agg c.toArray,.int .i64 n,.int .i64 d] w (FwPost2 f n w):=by
 obtain ⟨k,a,v,g,any,l,kids⟩:=f
 have IH:=aa (ih k a v g any l kids rfl)
 clear ih
 unfold FlAt at h
 obtain ⟨⟨qA,qn,qc⟩,⟨rA,rn,rc⟩,rfl,⟨-,hz1,hz2,hz3,hz4⟩,⟨hq1,hq2,hq3,hq4⟩,⟨hr1,hr2,hr3⟩,hks⟩:=h
 simp only at hq1 hq2 hq3 hq4 hr1 hr2 hr3 hks |-
 subst hr1 hq1
 have hb:=(Below.refl w.heap.size w).alloc (Nat.le_refl _) (.cells #[.int .i64 k,.string a,.string v,.string g,.slice qA any.length qc,.string l,.slice rA kids.length rc] 25)
 have hbx:=Bk.new w 25 #[.int .i64 k,.string a,.string v,.string g,.slice qA any.length qc,.string l,.slice rA kids.length rc]
 obtain ⟨w1,hw1⟩ : ∃ w1,w1 = w.alloc (.cells #[.int .i64 k,.string a,.string v,.string g,.slice qA any.length qc,.string l,.slice rA kids.length rc] 25):=⟨_,rfl⟩
 rw [<- hw1] at hb hbx
 have HW1:=aa hw1
 have HB:=aa hb
 have HBX:=aa hbx
 obtain ⟨hn1,hn2⟩:=hn
 obtain ⟨hd1,hd2⟩:=hd
 have hqm : qc <= 9223372036854775807:=by unfold maxLen at hq3; omega
 have hrm : rc <= 9223372036854775807:=by unfold maxLen at hr3; omega
 have HQ:=aa hq4
 have HK:=aa hks
 obtain ⟨x1,hx1,hx1a,hx1b,HX1⟩:=dT a hz1
 obtain ⟨x2,hx2,hx2a,hx2b,HX2⟩:=dT v hz2
 obtain ⟨x3,hx3,hx3a,hx3b,HX3⟩:=dT g hz3
 obtain ⟨x4,hx4,hx4a,hx4b,HX4⟩:=dT l hz4
 clear hb hbx hw1 hq4 hks hq3 hr3
 by_cases h60 : 60 < d
 ·have z0 : decide (60 < d) = true:=ab h60
  go_enter Tryz.func50,Tryz.ntmps50
  go_wp2_with fail
  go_ret
  exact ⟨by rw [<- HW1.out]; exact HB.out,_,rfl,by omega,by omega,by unfold Hid; intro hh; omega⟩
 have z0 : decide (60 < d) = false:=ae h60
 go_enter Tryz.func50,Tryz.ntmps50
 go_upto_block 0 with (fail)
 rw [<- HW1.out]
 go_cut [1,7] from 33 to 53 (fun vv _ wx => ∃ y : Int,vv = .int .i64 y /\ 0 <= y /\ y <= 25005 /\ Hid (y <= 5000 -> n + ((1 + a.size + v.size + g.size + l.size + wS any : Nat) : Int) <= y) /\ wx = w1)
 case first =>
  have q4 : w1.cell? ⟨w.heap.size,4,none⟩ = some (.slice qA any.length qc):=HBX.out.cell 4
  have hlt1:=HBX.out.lt
  go_wp2_with fail
  go_loopw [1,7] (fun u i wr => ∃ (j : Nat) (y : Int),i = .int .i64 j /\ u = .int .i64 y /\ j <= any.length /\ 0 <= y /\ y <= 25005 /\ Hid (y <= 5000 -> n + ((1 + a.size + v.size + g.size + l.size + wS (any.take j) : Nat) : Int) <= y) /\ wr = w1) (fun _ i _ => any.length - (intOf i).toNat)
  case atStart => exact ⟨0,n + 1 + x1 + x2 + x3 + x4,rfl,by go_num,Nat.zero_le _,by omega,by omega,by unfold Hid; intro hh; have h1:=HX1.out (by omega); have h2:=HX2.out (by omega); have h3:=HX3.out (by omega); have h4:=HX4.out (by omega); simp [wS]; omega,rfl⟩
  case round =>
   obtain ⟨j,y,rfl,rfl,hj,hy1,hy2,HS3,hwr⟩:=hrel
   subst hwr
   by_cases hlt : j < any.length
   ·have z1 : decide ((j : Int) < (any.length : Int)) = true:=ab (by omega)
    by_cases hk : y <= 5000
    ·have z2 : decide (y <= 5000) = true:=ab hk
     obtain ⟨b,o,c,rfl,hS,hcl,hc,hat,hsz⟩:=HQ.out j any[j] (List.getElem?_eq_getElem hlt)
     subst hat
     have hbw:=hS.2
     have hbw1 : b < wr.heap.size:=Nat.lt_of_lt_of_le hbw HB.out.size
     have q0 : wr.cell? ⟨b,o + j,none⟩ = some (.string any[j]):=by have:=hc 0 _ rfl; rw [Nat.mul_one,Nat.add_zero] at this; exact (HB.out.cell (p:=⟨b,o + j,none⟩) hbw).trans this
     have hgx : any[j]? = some any[j]:=List.getElem?_eq_getElem hlt
     obtain ⟨s,hs⟩ : ∃ s,s = any[j]:=⟨_,rfl⟩
     rw [<- hs] at q0 hsz hgx
     have HGX:=aa (wS_more hgx)
     obtain ⟨y2,hy,hy3,hy4,HY⟩:=dT s hsz
     clear hc hS hs hcl hgx
     go_wp2_with fail
     go_roundw
     case rel => exact ⟨j + 1,y + 1 + y2,by go_num,by go_num,by omega,by omega,by omega,by unfold Hid; intro hh; have h1:=HS3.out hk; have h2:=HY.out (by omega); have h3:=HGX.out; omega,by first | rfl | trivial⟩
     case measure => simp [intOf]; omega
    ·have z2 : decide (y <= 5000) = false:=ae hk
     go_wp2_with fail
     go_meet
     exact ⟨y,rfl,hy1,hy2,by unfold Hid; intro hh; omega,rfl⟩
   ·have z1 : decide ((j : Int) < (any.length : Int)) = false:=ae (by omega)
    go_wp2_with fail
    go_meet
    exact ⟨y,rfl,hy1,hy2,by unfold Hid; intro h; have h1:=HS3.out h; rw [List.take_of_length_le (by omega)] at h1; exact h1,rfl⟩
 case rest =>
  obtain ⟨y,rfl,hy1,hy2,HS4,rfl⟩:=hcut
  have HY:=aa HB.out
  go_wp2_with fail
  go_loopw [1,8] (fun u i wr => ∃ (j : Nat) (y : Int),i = .int .i64 j /\ u = .int .i64 y /\ j <= kids.length /\ 0 <= y /\ y <= 25005 /\ Hid (y <= 5000 -> n + ((1 + a.size + v.size + g.size + l.size + wS any + Fl.wts (kids.take j) : Nat) : Int) <= y) /\ Below w.heap.size w wr /\ Bk wr w.heap.size 25 #[.int .i64 k,.string a,.string v,.string g,.slice qA any.length qc,.string l,.slice rA kids.length rc]) (fun _ i _ => kids.length - (intOf i).toNat)
  case atStart => exact ⟨0,y,rfl,rfl,Nat.zero_le _,hy1,hy2,by unfold Hid; intro hh; have h1:=HS4.out hh; simp [Fl.wts]; omega,HY.out,HBX.out⟩
  case round =>
   obtain ⟨j,z,rfl,rfl,hj,hz1,hz2,HS5,hbw,hbk⟩:=hrel
   have HWT:=aa (show (Fl.mk k a v g any l kids).wt = 1 + a.size + v.size + g.size + l.size + wS any + Fl.wts kids from rfl)
   have q6 : wr.cell? ⟨w.heap.size,6,none⟩ = some (.slice rA kids.length rc):=hbk.cell 6
   have hlt1:=hbk.lt
   have HBW:=aa hbw
   have HBK:=aa hbk
   by_cases hlt : j < kids.length
   ·have z1 : decide ((j : Int) < (kids.length : Int)) = true:=ab (by omega)
    by_cases hk : z <= 5000
    ·have z2 : decide (z <= 5000) = true:=ab hk
     obtain ⟨b,o,c,rfl,hS,hc1,hcl,hfk⟩:=HK.out.get j kids[j] (List.getElem?_eq_getElem hlt)
     rw [Nat.zero_add] at hcl
     obtain ⟨y0,y1,y2,y3,y5,yA,yn,yc,zA,zn,zc,rfl⟩:=aY hfk
     have hbl : b < w.heap.size:=hS.2
     have hcw : ∀ o',wr.cell? ⟨b,o',none⟩ = w.cell? ⟨b,o',none⟩:=fun o' => hbw.cell (p:=⟨b,o',none⟩) hbl
     have q0 : wr.cell? ⟨b,o + j * 7,none⟩ = some (.int .i64 y0):=(hcw _).trans (hcl 0 _ rfl)
     have q1 : wr.cell? ⟨b,o + j * 7 + 1,none⟩ = some (.string y1):=(hcw _).trans (hcl 1 _ rfl)
     have q2 : wr.cell? ⟨b,o + j * 7 + 2,none⟩ = some (.string y2):=(hcw _).trans (hcl 2 _ rfl)
     have q3 : wr.cell? ⟨b,o + j * 7 + 3,none⟩ = some (.string y3):=(hcw _).trans (hcl 3 _ rfl)
     have q4 : wr.cell? ⟨b,o + j * 7 + 4,none⟩ = some (.slice yA yn yc):=(hcw _).trans (hcl 4 _ rfl)
     have q5 : wr.cell? ⟨b,o + j * 7 + 5,none⟩ = some (.string y5):=(hcw _).trans (hcl 5 _ rfl)
     have q6' : wr.cell? ⟨b,o + j * 7 + 6,none⟩ = some (.slice zA zn zc):=(hcw _).trans (hcl 6 _ rfl)
     have HC:=aa (IH.out kids[j] (List.getElem_mem hlt) _ S z (d + 1) wr (FlAt.keep (T:=S) hbw.size (fun x _ hlt => hbw.block x hlt) (fun _ h _ => h) _ _ hfk) ⟨hz1,hk⟩ ⟨by omega,by omega⟩)
     have HGX:=aa (Fl.wts_more (List.getElem?_eq_getElem hlt))
     have hbr : b < wr.heap.size:=Nat.lt_of_lt_of_le hbl hbw.size
     clear hS hc1 hcl hfk hcw hbw hbk
     go_wp2_with (go_at_call 50; refine HC.out.mono ?_; rintro e w2 ⟨hb2,z2,rfl,hz3,hz4,HZ2⟩; have hbw2:=HBW.out.trans (hb2.mono HBW.out.size); have hbk2:=af HBK.out hb2)
     go_roundw
     case rel => exact ⟨j + 1,z2,by go_num,by go_num,by omega,hz3,hz4,by unfold Hid; intro hh; have h2:=HZ2.out hh; have h1:=HS5.out hk; have h3:=HGX.out; omega,hbw2,hbk2⟩
     case measure => simp [intOf]; omega
    ·have z2 : decide (z <= 5000) = false:=ae hk
     clear hbw hbk
     go_wp2_with fail
     go_ret
     exact ⟨HBW.out,z,rfl,hz1,hz2,by unfold Hid; intro hh; omega⟩
   ·have z1 : decide ((j : Int) < (kids.length : Int)) = false:=ae (by omega)
    clear hbw hbk
    go_wp2_with fail
    go_ret
    exact ⟨HBW.out,z,rfl,hz1,hz2,by unfold Hid; intro h; have h1:=HS5.out h; rw [List.take_of_length_le (by omega)] at h1; rw [HWT.out]; exact h1⟩
mutual
theorem fweigh2_any : ∀ (f : Fl) (c : List Value) (S : Nat -> Prop) (n d : Int) (w : World),FlAt w S f c -> 0 <= n /\ n <= 5000 -> 0 <= d /\ d <= 61 -> Calls Tryz.prog 50 #[.agg c.toArray,.int .i64 n,.int .i64 d] w (FwPost2 f n w)
 | .mk k a v g any l kids,c,S,n,d,w,h,hn,hd => fweigh2_one _ c S n d w h hn hd fun k' a' v' g' any' l' kids' e => by
  have h7 : kids = kids':=by injection e
  have ih:=fB kids
  rw [<- h7]
  exact ih
theorem fB : ∀ (ks : List Fl),∀ y ∈ ks,∀ (c : List Value) (S : Nat -> Prop) (n d : Int) (w : World),FlAt w S y c -> 0 <= n /\ n <= 5000 -> 0 <= d /\ d <= 61 -> Calls Tryz.prog 50 #[.agg c.toArray,.int .i64 n,.int .i64 d] w (FwPost2 y n w)
 | [],y,hy,_,_,_,_,_,_,_,_ => by cases hy
 | k :: ks,y,hy,c,S,n,d,w,h,hn,hd => by
  have h1:=fweigh2_any k
  have h2:=fB ks
  rcases List.mem_cons.1 hy with rfl | hy
  ·exact h1 c S n d w h hn hd
  ·exact h2 y hy c S n d w h hn hd
end
def LongPost (f : Fl) (w : World) (e : Ending) (w' : World) : Prop:=Below w.heap.size w w' /\ ∃ q : Bool,e = .returned (.bool q) /\ (q = false -> f.wt <= 5000)
theorem long2_any (f : Fl) (c : List Value) (S : Nat -> Prop) (w : World) (h : FlAt w S f c) : Calls Tryz.prog 17 #[.agg c.toArray] w (LongPost f w):=by
 obtain ⟨y0,y1,y2,y3,y5,yA,yn,yc,zA,zn,zc,rfl⟩:=aY h
 have hb:=(Below.refl w.heap.size w).alloc (Nat.le_refl _) (.cells #[.int .i64 y0,.string y1,.string y2,.string y3,.slice yA yn yc,.string y5,.slice zA zn zc] 25)
 have HB:=aa hb
 have HC:=aa (fweigh2_any f _ S 0 1 _ (FlAt.keep (T:=S) hb.size (fun x _ hlt => hb.block x hlt) (fun _ h _ => h) _ _ h) (by omega) (by omega))
 clear h hb
 go_enter Tryz.func17,Tryz.ntmps17
 go_wp2_with fail
 (go_at_call 50)
 refine HC.out.mono ?_
 rintro e w2 ⟨hb2,z,rfl,hz1,hz2,HZ⟩
 have HB2:=aa (HB.out.trans (hb2.mono HB.out.size))
 clear hb2
 by_cases hz5 : 5000 < z
 ·have t1 : decide (5000 < z) = true:=ab hz5
  go_wp2_with fail
  go_ret
  exact ⟨HB2.out,true,rfl,fun h => by cases h⟩
 ·have t1 : decide (5000 < z) = false:=ae hz5
  go_wp2_with fail
  go_ret
  exact ⟨HB2.out,false,rfl,fun _ => by have:=HZ.out (by omega); omega⟩
def WgPost2 (M : Ms) (w : World) (e : Ending) (w' : World) : Prop:=Below w.heap.size w w' /\ ∃ k : Int,e = .returned (.int .i64 k) /\ (k <= 40000 -> M.wt <= 40000 /\ M.filter.wt <= 5000)
theorem weighM2_any (M : Ms) (m : MC) (S : Nat -> Prop) (w : World) (h : MsAt w S M m) : Calls Tryz.prog 6 #[.agg m.cells] w (WgPost2 M w):=by
 have HS:=aa aT
 obtain ⟨f,at',li,mo,de,co,hm,⟨hf1,hf2,hf3,hf4,hf5,hf6⟩,hfl,hat,hli,hmo,hde,hco⟩:=h
 obtain ⟨cs,hcs⟩ : ∃ cs,cs = m.cells:=⟨_,rfl⟩
 have c3 : cs[3]? = some (.string M.name):=by rw [hcs,hm]; rfl
 have c5 : cs[5]? = some (.string M.secret):=by rw [hcs,hm]; rfl
 have c6 : cs[6]? = some (.string M.kind):=by rw [hcs,hm]; rfl
 have c8 : cs[8]? = some (.string M.value):=by rw [hcs,hm]; rfl
 have c10 : cs[10]? = some (.string M.text):=by rw [hcs,hm]; rfl
 have c26 : cs[26]? = some (.string M.rdn):=by rw [hcs,hm]; rfl
 have c23 : cs[23]? = some (.slice at'.A at'.n at'.c):=by rw [hcs,hm]; rfl
 have c28 : cs[28]? = some (.slice de.A de.n de.c):=by rw [hcs,hm]; rfl
 have c24 : cs[24]? = some (.slice li.A li.n li.c):=by rw [hcs,hm]; rfl
 have c25 : cs[25]? = some (.slice mo.A mo.n mo.c):=by rw [hcs,hm]; rfl
 have c30 : cs[30]? = some (.slice co.A co.n co.c):=by rw [hcs,hm]; rfl
 have c16 : cs[16]? = some (.int .i64 f.kind):=by rw [hcs,hm]; rfl
 have c17 : cs[17]? = some (.string f.attr):=by rw [hcs,hm]; rfl
 have c18 : cs[18]? = some (.string f.value):=by rw [hcs,hm]; rfl
 have c19 : cs[19]? = some (.string f.first):=by rw [hcs,hm]; rfl
 have c20 : cs[20]? = some (.slice f.any.A f.any.n f.any.c):=by rw [hcs,hm]; rfl
 have c21 : cs[21]? = some (.string f.last):=by rw [hcs,hm]; rfl
 have c22 : cs[22]? = some (.slice f.kids.A f.kids.n f.kids.c):=by rw [hcs,hm]; rfl
 rw [<- hcs]
 clear hcs hm
 have hb:=(Below.refl w.heap.size w).alloc (Nat.le_refl _) (.cells cs 30)
 have hbk:=Bk.new w 30 cs
 have p3 : (w.alloc (.cells cs 30)).cell? ⟨w.heap.size,3,none⟩ = some (.string _):=(hbk.cell 3).trans c3
 have p5 : (w.alloc (.cells cs 30)).cell? ⟨w.heap.size,5,none⟩ = some (.string _):=(hbk.cell 5).trans c5
 have p6 : (w.alloc (.cells cs 30)).cell? ⟨w.heap.size,6,none⟩ = some (.string _):=(hbk.cell 6).trans c6
 have p8 : (w.alloc (.cells cs 30)).cell? ⟨w.heap.size,8,none⟩ = some (.string _):=(hbk.cell 8).trans c8
 have p10 : (w.alloc (.cells cs 30)).cell? ⟨w.heap.size,10,none⟩ = some (.string _):=(hbk.cell 10).trans c10
 have p26 : (w.alloc (.cells cs 30)).cell? ⟨w.heap.size,26,none⟩ = some (.string _):=(hbk.cell 26).trans c26
 obtain ⟨x1,hx1,hx1a,hx1b,HX1⟩:=ck M.name hf1
 obtain ⟨x2,hx2,hx2a,hx2b,HX2⟩:=ck M.secret hf2
 obtain ⟨x3,hx3,hx3a,hx3b,HX3⟩:=ck M.kind hf3
 obtain ⟨x4,hx4,hx4a,hx4b,HX4⟩:=ck M.value hf4
 obtain ⟨x5,hx5,hx5a,hx5b,HX5⟩:=ck M.text hf5
 obtain ⟨x6,hx6,hx6a,hx6b,HX6⟩:=ck M.rdn hf6
 have HB:=aa hb
 have HBK:=aa hbk
 clear hb hbk
 go_enter Tryz.func6,Tryz.ntmps6
 go_upto_block 0 with (fail)
 go_cut [3,4] from 38 to 58 (fun v _ wx => ∃ y : Int,v = .int .i64 y /\ 0 <= y /\ y <= 240006 /\ Hid (y <= 40000 -> ((M.name.size + M.secret.size + M.kind.size + M.value.size + M.text.size + M.rdn.size + wS M.attrs : Nat) : Int) <= y) /\ Below w.heap.size w wx /\ Bk wx w.heap.size 30 cs)
 case first =>
  obtain ⟨⟨A,nn,cap⟩,hv⟩ : ∃ r,r = at':=⟨_,rfl⟩
  rw [<- hv] at hat c23
  obtain ⟨r1,r2,r3,r4⟩:=hat
  simp only at r1 r2 r3 r4 c23
  subst r1
  have H4:=aa r4
  have hcm : cap <= 9223372036854775807:=by unfold maxLen at r3; omega
  clear r4 r3
  have p23:=(HBK.out.cell 23).trans c23
  have hlt1:=HBK.out.lt
  go_wp2_with fail
  go_loopw [3,4] (fun u i wr => ∃ (j : Nat) (y : Int),i = .int .i64 j /\ u = .int .i64 y /\ j <= M.attrs.length /\ 0 <= y /\ y <= 240006 /\ Hid (y <= 40000 -> ((M.name.size + M.secret.size + M.kind.size + M.value.size + M.text.size + M.rdn.size + wS (M.attrs.take j) : Nat) : Int) <= y) /\ Below w.heap.size w wr /\ Bk wr w.heap.size 30 cs) (fun _ i _ => M.attrs.length - (intOf i).toNat)
  case atStart => exact ⟨0,x1 + x2 + x3 + x4 + x5 + x6,rfl,by go_num,Nat.zero_le _,by omega,by omega,by unfold Hid; intro hh; have h1:=HX1.out (by omega); have h2:=HX2.out (by omega); have h3:=HX3.out (by omega); have h4:=HX4.out (by omega); have h5:=HX5.out (by omega); have h6:=HX6.out (by omega); simp [wS]; omega,HB.out,HBK.out⟩
  case round =>
   obtain ⟨j,y,rfl,rfl,hj,hy1,hy2,HS3,hbw,hbk⟩:=hrel
   have HBW:=aa hbw
   have HBK9:=aa hbk
   have q0:=(hbk.cell 23).trans c23
   have hltw:=hbk.lt
   by_cases hlt : j < M.attrs.length
   ·have z1 : decide ((j : Int) < (M.attrs.length : Int)) = true:=ab (by omega)
    by_cases hk : y <= 40000
    ·have z2 : decide (y <= 40000) = true:=ab hk
     obtain ⟨b,o,c,rfl,hS,hcl,hc,hat9⟩:=H4.out j M.attrs[j] (List.getElem?_eq_getElem hlt)
     have hbl : b < wr.heap.size:=Nat.lt_of_lt_of_le hS.2 hbw.size
     have hcw : ∀ o',wr.cell? ⟨b,o',none⟩ = w.cell? ⟨b,o',none⟩:=fun o' => hbw.cell (p:=⟨b,o',none⟩) hS.2
     have hgt : M.attrs[j]? = some M.attrs[j]:=List.getElem?_eq_getElem hlt
     obtain ⟨s,hs⟩ : ∃ s,s = M.attrs[j]:=⟨_,rfl⟩
     rw [<- hs] at hat9 hgt
     have HGX : Hid (wS (M.attrs.take (j + 1)) = wS (M.attrs.take j) + (1 + s.size)):=aa (wS_more hgt)
     obtain ⟨rfl,hsz⟩:=hat9
     have q1 : wr.cell? ⟨b,o + j,none⟩ = some (.string s):=by have:=hc 0 _ rfl; rw [Nat.mul_one,Nat.add_zero] at this; exact (hcw _).trans this
     obtain ⟨x,hx,hxa,hxb,HXX⟩:=ck s hsz
     clear hc hS hs hcl hcw hbw hbk
     go_wp2_with fail
     go_roundw
     case rel => exact ⟨j + 1,y + 1 + x,by go_num,by go_num,by omega,by omega,by omega,by unfold Hid; intro hh; have h1:=HS3.out hk; have h2:=HXX.out (by omega); have h3:=HGX.out; omega,HBW.out,HBK9.out⟩
     case measure => simp [intOf]; omega
    ·have z2 : decide (y <= 40000) = false:=ae hk
     clear hbw hbk
     go_wp2_with fail
     go_meet
     exact ⟨y,rfl,hy1,hy2,by unfold Hid; intro hh; omega,HBW.out,HBK9.out⟩
   ·have z1 : decide ((j : Int) < (M.attrs.length : Int)) = false:=ae (by omega)
    clear hbw hbk
    go_wp2_with fail
    go_meet
    exact ⟨y,rfl,hy1,hy2,by unfold Hid; intro h; have h1:=HS3.out h; rw [List.take_of_length_le (by omega)] at h1; exact h1,HBW.out,HBK9.out⟩
 case rest =>
 obtain ⟨y1,rfl,hy1a,hy1b,HC1,hb1,hbk1⟩:=hcut
 have HB1:=aa hb1
 have HBK1:=aa hbk1
 clear hb1 hbk1
 rename_i v1
 go_upto_block 2 with (fail)
 go_cut [3,5] from 59 to 79 (fun v _ wx => ∃ y : Int,v = .int .i64 y /\ y1 <= y /\ y <= 240006 /\ Hid (y <= 40000 -> y1 + (wS M.dest : Int) <= y) /\ Below w.heap.size w wx /\ Bk wx w.heap.size 30 cs)
 case first =>
  obtain ⟨⟨A,nn,cap⟩,hv⟩ : ∃ r,r = de:=⟨_,rfl⟩
  rw [<- hv] at hde c28
  obtain ⟨r1,r2,r3,r4⟩:=hde
  simp only at r1 r2 r3 r4 c28
  subst r1
  have H4:=aa r4
  have hcm : cap <= 9223372036854775807:=by unfold maxLen at r3; omega
  clear r4 r3
  have p28:=(HBK1.out.cell 28).trans c28
  have hlt1:=HBK1.out.lt
  go_wp2_with fail
  go_loopw [3,5] (fun u i wr => ∃ (j : Nat) (y : Int),i = .int .i64 j /\ u = .int .i64 y /\ j <= M.dest.length /\ y1 <= y /\ y <= 240006 /\ Hid (y <= 40000 -> y1 + (wS (M.dest.take j) : Int) <= y) /\ Below w.heap.size w wr /\ Bk wr w.heap.size 30 cs) (fun _ i _ => M.dest.length - (intOf i).toNat)
  case atStart => exact ⟨0,y1,rfl,by go_num,Nat.zero_le _,by omega,by omega,by unfold Hid; intro hh; simp [wS,wA,wM,wC],HB1.out,HBK1.out⟩
  case round =>
   obtain ⟨j,y,rfl,rfl,hj,hy1,hy2,HS3,hbw,hbk⟩:=hrel
   have HBW:=aa hbw
   have HBK9:=aa hbk
   have q0:=(hbk.cell 28).trans c28
   have hltw:=hbk.lt
   by_cases hlt : j < M.dest.length
   ·have z1 : decide ((j : Int) < (M.dest.length : Int)) = true:=ab (by omega)
    by_cases hk : y <= 40000
    ·have z2 : decide (y <= 40000) = true:=ab hk
     obtain ⟨b,o,c,rfl,hS,hcl,hc,hat9⟩:=H4.out j M.dest[j] (List.getElem?_eq_getElem hlt)
     have hbl : b < wr.heap.size:=Nat.lt_of_lt_of_le hS.2 hbw.size
     have hcw : ∀ o',wr.cell? ⟨b,o',none⟩ = w.cell? ⟨b,o',none⟩:=fun o' => hbw.cell (p:=⟨b,o',none⟩) hS.2
     have hgt : M.dest[j]? = some M.dest[j]:=List.getElem?_eq_getElem hlt
     obtain ⟨s,hs⟩ : ∃ s,s = M.dest[j]:=⟨_,rfl⟩
     rw [<- hs] at hat9 hgt
     have HGX : Hid (wS (M.dest.take (j + 1)) = wS (M.dest.take j) + (1 + s.size)):=aa (wS_more hgt)
     obtain ⟨rfl,hsz⟩:=hat9
     have q1 : wr.cell? ⟨b,o + j,none⟩ = some (.string s):=by have:=hc 0 _ rfl; rw [Nat.mul_one,Nat.add_zero] at this; exact (hcw _).trans this
     obtain ⟨x,hx,hxa,hxb,HXX⟩:=ck s hsz
     clear hc hS hs hcl hcw hbw hbk
     go_wp2_with fail
     go_roundw
     case rel => exact ⟨j + 1,y + 1 + x,by go_num,by go_num,by omega,by omega,by omega,by unfold Hid; intro hh; have h1:=HS3.out hk; have h2:=HXX.out (by omega); have h3:=HGX.out; omega,HBW.out,HBK9.out⟩
     case measure => simp [intOf]; omega
    ·have z2 : decide (y <= 40000) = false:=ae hk
     clear hbw hbk
     go_wp2_with fail
     go_meet
     exact ⟨y,rfl,hy1,hy2,by unfold Hid; intro hh; omega,HBW.out,HBK9.out⟩
   ·have z1 : decide ((j : Int) < (M.dest.length : Int)) = false:=ae (by omega)
    clear hbw hbk
    go_wp2_with fail
    go_meet
    exact ⟨y,rfl,hy1,hy2,by unfold Hid; intro h; have h1:=HS3.out h; rw [List.take_of_length_le (by omega)] at h1; exact h1,HBW.out,HBK9.out⟩
 case rest =>
 obtain ⟨y2,rfl,hy2a,hy2b,HC2,hb2,hbk2⟩:=hcut
 have HB2:=aa hb2
 have HBK2:=aa hbk2
 clear hb2 hbk2
 rename_i v2
 go_upto_block 4 with (fail)
 go_cut [3,6] from 80 to 104 (fun v _ wx => ∃ y : Int,v = .int .i64 y /\ y2 <= y /\ y <= 240006 /\ Hid (y <= 40000 -> y2 + (wA M.list : Int) <= y) /\ Below w.heap.size w wx /\ Bk wx w.heap.size 30 cs)
 case first =>
  obtain ⟨⟨A,nn,cap⟩,hv⟩ : ∃ r,r = li:=⟨_,rfl⟩
  rw [<- hv] at hli c24
  obtain ⟨r1,r2,r3,r4⟩:=hli
  simp only at r1 r2 r3 r4 c24
  subst r1
  have H4:=aa r4
  have hcm : cap <= 9223372036854775807:=by unfold maxLen at r3; omega
  clear r4 r3
  have p24:=(HBK2.out.cell 24).trans c24
  have hlt1:=HBK2.out.lt
  go_wp2_with fail
  go_loopw [3,6] (fun u i wr => ∃ (j : Nat) (y : Int),i = .int .i64 j /\ u = .int .i64 y /\ j <= M.list.length /\ y2 <= y /\ y <= 240006 /\ Hid (y <= 40000 -> y2 + (wA (M.list.take j) : Int) <= y) /\ Below w.heap.size w wr /\ Bk wr w.heap.size 30 cs) (fun _ i _ => M.list.length - (intOf i).toNat)
  case atStart => exact ⟨0,y2,rfl,by go_num,Nat.zero_le _,by omega,by omega,by unfold Hid; intro hh; simp [wS,wA,wM,wC],HB2.out,HBK2.out⟩
  case round =>
   obtain ⟨j,y,rfl,rfl,hj,hy1,hy2,HS3,hbw,hbk⟩:=hrel
   have HBW:=aa hbw
   have HBK9:=aa hbk
   have q0:=(hbk.cell 24).trans c24
   have hltw:=hbk.lt
   by_cases hlt : j < M.list.length
   ·have z1 : decide ((j : Int) < (M.list.length : Int)) = true:=ab (by omega)
    by_cases hk : y <= 40000
    ·have z2 : decide (y <= 40000) = true:=ab hk
     obtain ⟨b,o,c,rfl,hS,hcl,hc,hat9⟩:=H4.out j M.list[j] (List.getElem?_eq_getElem hlt)
     have hbl : b < wr.heap.size:=Nat.lt_of_lt_of_le hS.2 hbw.size
     have hcw : ∀ o',wr.cell? ⟨b,o',none⟩ = w.cell? ⟨b,o',none⟩:=fun o' => hbw.cell (p:=⟨b,o',none⟩) hS.2
     have hgt : M.list[j]? = some M.list[j]:=List.getElem?_eq_getElem hlt
     obtain ⟨s,hs⟩ : ∃ s,s = M.list[j]:=⟨_,rfl⟩
     rw [<- hs] at hat9 hgt
     have HGX : Hid (wA (M.list.take (j + 1)) = wA (M.list.take j) + atW s):=aa (eA atW hgt)
     obtain ⟨q,rfl,hsz,hss⟩:=hat9
     have q1 : wr.cell? ⟨b,o + j * 2,none⟩ = some (.string s.1):=(hcw _).trans (hc 0 _ rfl)
     have q2 : wr.cell? ⟨b,o + j * 2 + 1,none⟩ = some (.slice q.A q.n q.c):=(hcw _).trans (hc 1 _ rfl)
     have HV:=aa (values2_any s.1 q s.2 y S wr.drew (SRow.keep9 hss hbw) hsz (by omega) hk)
     have HBD:=aa HBW.out.drew
     clear hc hS hs hcl hcw hbw hbk hss
     go_wp2_with fail
     go_region_held3 (fun W => W.cell? ⟨w.heap.size,24,none⟩ = some (.slice (some ⟨b,o,none⟩) M.list.length cap) /\ W.cell? ⟨b,o + j * 2,none⟩ = some (.string s.1) /\ W.cell? ⟨b,o + j * 2 + 1,none⟩ = some (.slice q.A q.n q.c)) (exact ⟨q0,q1,q2⟩)
      (first
       | (go_at_call 16; refine HV.out.mono ?_; rintro e w9 ⟨rfl,x,rfl,hx1',hx2',HX3⟩)
       | fail)
     all_goals
      go_wp2_with fail
      go_roundw
      case rel => exact ⟨j + 1,x,by go_num,by go_num,by omega,by omega,by omega,by unfold Hid; intro hh; have h1:=HS3.out hk; have h2:=HX3.out hh; have h3:=HGX.out; (try unfold atW at h3); (try unfold mdW at h3); omega,HBD.out,HBK9.out⟩
      case measure => simp [intOf]; omega
    ·have z2 : decide (y <= 40000) = false:=ae hk
     clear hbw hbk
     go_wp2_with fail
     go_meet
     exact ⟨y,rfl,hy1,hy2,by unfold Hid; intro hh; omega,HBW.out,HBK9.out⟩
   ·have z1 : decide ((j : Int) < (M.list.length : Int)) = false:=ae (by omega)
    clear hbw hbk
    go_wp2_with fail
    go_meet
    exact ⟨y,rfl,hy1,hy2,by unfold Hid; intro h; have h1:=HS3.out h; rw [List.take_of_length_le (by omega)] at h1; exact h1,HBW.out,HBK9.out⟩
 case rest =>
 obtain ⟨y3,rfl,hy3a,hy3b,HC3,hb3,hbk3⟩:=hcut
 have HB3:=aa hb3
 have HBK3:=aa hbk3
 clear hb3 hbk3
 rename_i v3
 go_upto_block 6 with (fail)
 go_cut [3,7] from 105 to 129 (fun v _ wx => ∃ y : Int,v = .int .i64 y /\ y3 <= y /\ y <= 240006 /\ Hid (y <= 40000 -> y3 + (wM M.mods : Int) <= y) /\ Below w.heap.size w wx /\ Bk wx w.heap.size 30 cs)
 case first =>
  obtain ⟨⟨A,nn,cap⟩,hv⟩ : ∃ r,r = mo:=⟨_,rfl⟩
  rw [<- hv] at hmo c25
  obtain ⟨r1,r2,r3,r4⟩:=hmo
  simp only at r1 r2 r3 r4 c25
  subst r1
  have H4:=aa r4
  have hcm : cap <= 9223372036854775807:=by unfold maxLen at r3; omega
  clear r4 r3
  have p25:=(HBK3.out.cell 25).trans c25
  have hlt1:=HBK3.out.lt
  go_wp2_with fail
  go_loopw [3,7] (fun u i wr => ∃ (j : Nat) (y : Int),i = .int .i64 j /\ u = .int .i64 y /\ j <= M.mods.length /\ y3 <= y /\ y <= 240006 /\ Hid (y <= 40000 -> y3 + (wM (M.mods.take j) : Int) <= y) /\ Below w.heap.size w wr /\ Bk wr w.heap.size 30 cs) (fun _ i _ => M.mods.length - (intOf i).toNat)
  case atStart => exact ⟨0,y3,rfl,by go_num,Nat.zero_le _,by omega,by omega,by unfold Hid; intro hh; simp [wS,wA,wM,wC],HB3.out,HBK3.out⟩
  case round =>
   obtain ⟨j,y,rfl,rfl,hj,hy1,hy2,HS3,hbw,hbk⟩:=hrel
   have HBW:=aa hbw
   have HBK9:=aa hbk
   have q0:=(hbk.cell 25).trans c25
   have hltw:=hbk.lt
   by_cases hlt : j < M.mods.length
   ·have z1 : decide ((j : Int) < (M.mods.length : Int)) = true:=ab (by omega)
    by_cases hk : y <= 40000
    ·have z2 : decide (y <= 40000) = true:=ab hk
     obtain ⟨b,o,c,rfl,hS,hcl,hc,hat9⟩:=H4.out j M.mods[j] (List.getElem?_eq_getElem hlt)
     have hbl : b < wr.heap.size:=Nat.lt_of_lt_of_le hS.2 hbw.size
     have hcw : ∀ o',wr.cell? ⟨b,o',none⟩ = w.cell? ⟨b,o',none⟩:=fun o' => hbw.cell (p:=⟨b,o',none⟩) hS.2
     have hgt : M.mods[j]? = some M.mods[j]:=List.getElem?_eq_getElem hlt
     obtain ⟨s,hs⟩ : ∃ s,s = M.mods[j]:=⟨_,rfl⟩
     rw [<- hs] at hat9 hgt
     have HGX : Hid (wM (M.mods.take (j + 1)) = wM (M.mods.take j) + mdW s):=aa (eA mdW hgt)
     obtain ⟨q,rfl,⟨-,hsz⟩,hss⟩:=hat9
     have q1 : wr.cell? ⟨b,o + j * 3 + 1,none⟩ = some (.string s.2.1):=(hcw _).trans (hc 1 _ rfl)
     have q2 : wr.cell? ⟨b,o + j * 3 + 2,none⟩ = some (.slice q.A q.n q.c):=(hcw _).trans (hc 2 _ rfl)
     have HV:=aa (values2_any s.2.1 q s.2.2 y S wr.drew (SRow.keep9 hss hbw) hsz (by omega) hk)
     have HBD:=aa HBW.out.drew
     clear hc hS hs hcl hcw hbw hbk hss
     go_wp2_with fail
     go_region_held3 (fun W => W.cell? ⟨w.heap.size,25,none⟩ = some (.slice (some ⟨b,o,none⟩) M.mods.length cap) /\ W.cell? ⟨b,o + j * 3 + 1,none⟩ = some (.string s.2.1) /\ W.cell? ⟨b,o + j * 3 + 2,none⟩ = some (.slice q.A q.n q.c)) (exact ⟨q0,q1,q2⟩)
      (first
       | (go_at_call 16; refine HV.out.mono ?_; rintro e w9 ⟨rfl,x,rfl,hx1',hx2',HX3⟩)
       | fail)
     all_goals
      go_wp2_with fail
      go_roundw
      case rel => exact ⟨j + 1,x,by go_num,by go_num,by omega,by omega,by omega,by unfold Hid; intro hh; have h1:=HS3.out hk; have h2:=HX3.out hh; have h3:=HGX.out; (try unfold atW at h3); (try unfold mdW at h3); omega,HBD.out,HBK9.out⟩
      case measure => simp [intOf]; omega
    ·have z2 : decide (y <= 40000) = false:=ae hk
     clear hbw hbk
     go_wp2_with fail
     go_meet
     exact ⟨y,rfl,hy1,hy2,by unfold Hid; intro hh; omega,HBW.out,HBK9.out⟩
   ·have z1 : decide ((j : Int) < (M.mods.length : Int)) = false:=ae (by omega)
    clear hbw hbk
    go_wp2_with fail
    go_meet
    exact ⟨y,rfl,hy1,hy2,by unfold Hid; intro h; have h1:=HS3.out h; rw [List.take_of_length_le (by omega)] at h1; exact h1,HBW.out,HBK9.out⟩
 case rest =>
 obtain ⟨y4,rfl,hy4a,hy4b,HC4,hb4,hbk4⟩:=hcut
 have HB4:=aa hb4
 have HBK4:=aa hbk4
 clear hb4 hbk4
 rename_i v4
 go_upto_block 8 with (fail)
 go_cut [3,8] from 130 to 160 (fun v _ wx => ∃ y : Int,v = .int .i64 y /\ y4 <= y /\ y <= 240006 /\ Hid (y <= 40000 -> y4 + (wC M.controls : Int) <= y) /\ Below w.heap.size w wx /\ Bk wx w.heap.size 30 cs)
 case first =>
  obtain ⟨⟨A,nn,cap⟩,hv⟩ : ∃ r,r = co:=⟨_,rfl⟩
  rw [<- hv] at hco c30
  obtain ⟨r1,r2,r3,r4⟩:=hco
  simp only at r1 r2 r3 r4 c30
  subst r1
  have H4:=aa r4
  have hcm : cap <= 9223372036854775807:=by unfold maxLen at r3; omega
  clear r4 r3
  have p30:=(HBK4.out.cell 30).trans c30
  have hlt1:=HBK4.out.lt
  go_wp2_with fail
  go_loopw [3,8] (fun u i wr => ∃ (j : Nat) (y : Int),i = .int .i64 j /\ u = .int .i64 y /\ j <= M.controls.length /\ y4 <= y /\ y <= 240006 /\ Hid (y <= 40000 -> y4 + (wC (M.controls.take j) : Int) <= y) /\ Below w.heap.size w wr /\ Bk wr w.heap.size 30 cs) (fun _ i _ => M.controls.length - (intOf i).toNat)
  case atStart => exact ⟨0,y4,rfl,by go_num,Nat.zero_le _,by omega,by omega,by unfold Hid; intro hh; simp [wS,wA,wM,wC],HB4.out,HBK4.out⟩
  case round =>
   obtain ⟨j,y,rfl,rfl,hj,hy1,hy2,HS3,hbw,hbk⟩:=hrel
   have HBW:=aa hbw
   have HBK9:=aa hbk
   have q0:=(hbk.cell 30).trans c30
   have hltw:=hbk.lt
   by_cases hlt : j < M.controls.length
   ·have z1 : decide ((j : Int) < (M.controls.length : Int)) = true:=ab (by omega)
    by_cases hk : y <= 40000
    ·have z2 : decide (y <= 40000) = true:=ab hk
     obtain ⟨b,o,c,rfl,hS,hcl,hc,hat9⟩:=H4.out j M.controls[j] (List.getElem?_eq_getElem hlt)
     have hbl : b < wr.heap.size:=Nat.lt_of_lt_of_le hS.2 hbw.size
     have hcw : ∀ o',wr.cell? ⟨b,o',none⟩ = w.cell? ⟨b,o',none⟩:=fun o' => hbw.cell (p:=⟨b,o',none⟩) hS.2
     have hgt : M.controls[j]? = some M.controls[j]:=List.getElem?_eq_getElem hlt
     obtain ⟨s,hs⟩ : ∃ s,s = M.controls[j]:=⟨_,rfl⟩
     rw [<- hs] at hat9 hgt
     have HGX : Hid (wC (M.controls.take (j + 1)) = wC (M.controls.take j) + coW s):=aa (eA coW hgt)
     obtain ⟨rfl,hsz,hsz2⟩:=hat9
     have q1 : wr.cell? ⟨b,o + j * 4,none⟩ = some (.string s.1):=(hcw _).trans (hc 0 _ rfl)
     have q2 : wr.cell? ⟨b,o + j * 4 + 3,none⟩ = some (.string s.2.2.2):=(hcw _).trans (hc 3 _ rfl)
     obtain ⟨x,hx,hxa,hxb,HXX⟩:=ck s.1 hsz
     obtain ⟨x9,hx9,hx9a,hx9b,HX9⟩:=ck s.2.2.2 hsz2
     have hw : IntKind.i64.wrap (IntKind.i64.wrap (IntKind.i64.wrap (y + 1) + x) + x9) = y + 1 + x + x9:=by rw [IntWalk.i64_in (y + 1) (by omega),IntWalk.i64_in (y + 1 + x) (by omega),IntWalk.i64_in _ (by omega)]
     have HBD:=aa HBW.out.drew
     clear hc hS hs hcl hcw hbw hbk
     go_wp2_with fail
     go_region_held3 (fun W => W.cell? ⟨w.heap.size,30,none⟩ = some (.slice (some ⟨b,o,none⟩) M.controls.length cap) /\ W.cell? ⟨b,o + j * 4,none⟩ = some (.string s.1) /\ W.cell? ⟨b,o + j * 4 + 3,none⟩ = some (.string s.2.2.2)) (exact ⟨q0,q1,q2⟩) (fail)
     all_goals
      go_wp2_with fail
      go_roundw
      case rel => exact ⟨j + 1,y + 1 + x + x9,by go_num,by first | rfl | exact congrArg (Value.int .i64) hw,by omega,by omega,by omega,by unfold Hid; intro hh; have h1:=HS3.out hk; have h2:=HXX.out (by omega); have h4:=HX9.out (by omega); have h3:=HGX.out; unfold coW at h3; omega,HBD.out,HBK9.out⟩
      case measure => simp [intOf]; omega
    ·have z2 : decide (y <= 40000) = false:=ae hk
     clear hbw hbk
     go_wp2_with fail
     go_meet
     exact ⟨y,rfl,hy1,hy2,by unfold Hid; intro hh; omega,HBW.out,HBK9.out⟩
   ·have z1 : decide ((j : Int) < (M.controls.length : Int)) = false:=ae (by omega)
    clear hbw hbk
    go_wp2_with fail
    go_meet
    exact ⟨y,rfl,hy1,hy2,by unfold Hid; intro h; have h1:=HS3.out h; rw [List.take_of_length_le (by omega)] at h1; exact h1,HBW.out,HBK9.out⟩
 case rest =>
 obtain ⟨y5,rfl,hy5a,hy5b,HC5,hb5,hbk5⟩:=hcut
 have HB5:=aa hb5
 have HBK5:=aa hbk5
 clear hb5 hbk5
 rename_i v5
 have e16:=(HBK5.out.cell 16).trans c16
 have e17:=(HBK5.out.cell 17).trans c17
 have e18:=(HBK5.out.cell 18).trans c18
 have e19:=(HBK5.out.cell 19).trans c19
 have e20:=(HBK5.out.cell 20).trans c20
 have e21:=(HBK5.out.cell 21).trans c21
 have e22:=(HBK5.out.cell 22).trans c22
 have hlt5:=HBK5.out.lt
 have HL:=aa (long2_any M.filter _ S _ (FlAt.keep (T:=S) HB5.out.size (fun x _ hlt => HB5.out.block x hlt) (fun _ h _ => h) _ _ hfl))
 clear hfl
 go_wp2_with fail
 (go_at_call 17)
 refine HL.out.mono ?_
 rintro e w6 ⟨hb6,q,rfl,hq6⟩
 have HQ6:=aa hq6
 have HB6:=aa (HB5.out.trans (hb6.mono HB5.out.size))
 clear hb6 hq6
 cases q with
 | true =>
  go_wp2_with fail
  go_ret
  exact ⟨HB6.out,_,rfl,fun hh => by omega⟩
 | false =>
  go_wp2_with fail
  go_ret
  exact ⟨HB6.out,_,rfl,fun hh => ⟨by have h1:=HC1.out (by omega); have h2:=HC2.out (by omega); have h3:=HC3.out (by omega); have h4:=HC4.out (by omega); have h5:=HC5.out (by omega); unfold Ms.wt; omega,HQ6.out (by trivial)⟩⟩
theorem fD : ∀ (l : List ByteArray),l.length <= wS l
 | [] => Nat.zero_le _
 | s :: l => by
  have:=fD l
  simp only [wS,List.map_cons,List.sum_cons,List.length_cons] at this |-
  omega
theorem fi {α : Type} (f : α -> Nat) (hf : ∀ a,1 <= f a) : ∀ (l : List α),l.length <= (l.map f).sum
 | [] => Nat.zero_le _
 | s :: l => by
  have:=fi f hf l
  have:=hf s
  simp only [List.map_cons,List.sum_cons,List.length_cons]
  omega
theorem wsum_mem {α : Type} (f : α -> Nat) {a : α} : ∀ {l : List α},a ∈ l -> f a <= (l.map f).sum
 | [],h => by cases h
 | s :: l,h => by
  simp only [List.map_cons,List.sum_cons]
  rcases List.mem_cons.1 h with rfl | h
  ·omega
  ·have:=wsum_mem f h; omega
theorem Ms.wt_small {M : Ms} (h : M.wt <= 40000) : M.small:=by
 unfold Ms.wt at h
 have h1:=fD M.attrs
 have h2:=fD M.dest
 have h3:=fi atW (fun a => by unfold atW; omega) M.list
 have h4:=fi mdW (fun a => by unfold mdW; omega) M.mods
 have h5:=fi coW (fun a => by unfold coW; omega) M.controls
 have e3 : wA M.list = (M.list.map atW).sum:=rfl
 have e4 : wM M.mods = (M.mods.map mdW).sum:=rfl
 have e5 : wC M.controls = (M.controls.map coW).sum:=rfl
 refine ⟨by omega,by omega,⟨by omega,fun a ha => ?_⟩,⟨by omega,fun a ha => ?_⟩,by omega⟩
 ·have h6:=wsum_mem atW ha
  have h7:=fD a.2
  have h8 : atW a = 1 + a.1.size + wS a.2:=rfl
  omega
 ·have h6:=wsum_mem mdW ha
  have h7:=fD a.2.2
  have h8 : mdW a = 1 + a.2.1.size + wS a.2.2:=rfl
  omega
theorem ofRun_len : ∀ (k : Nat) (l : List UInt8) (m : Int),(PB.ofRun k l m).length <= l.length + k
 | 0,l,m => by unfold PB.ofRun; omega
 | k + 1,l,m => by
  unfold PB.ofRun
  split
  ·omega
  ·have:=ofRun_len k (PB.low m :: l) (m / 256)
   simp only [List.length_cons] at this
   omega
theorem fR (n : Int) : (PB.ofNum n).length <= 9:=by
 have:=ofRun_len 8 [PB.low n] (n / 256)
 simpa [PB.ofNum] using this
theorem dt (c g : Int) (s : ByteArray) : (PB.enc (.mk c false g s [])).length <= 5 + s.size:=by
 unfold PB.enc
 rw [if_neg (by decide)]
 have h1:=(PB.lenB_len s.size).2
 have e : s.data.toList.length = s.size:=rfl
 simp only [List.length_cons,List.length_append,e]
 omega
theorem cI (c g : Int) (ks : List Tl) : (PB.enc (.mk c true g ⟨#[]⟩ ks)).length <= 5 + (PB.encs ks).length:=by
 unfold PB.enc
 rw [if_pos rfl]
 have h1:=(PB.lenB_len (PB.encs ks).length).2
 simp only [List.length_cons,List.length_append]
 omega
theorem ai (k : Tl) (ks : List Tl) : (PB.encs (k :: ks)).length = (PB.enc k).length + (PB.encs ks).length:=by
 rw [PB.encs,List.length_append]
theorem ar : (PB.encs []).length = 0:=by simp [PB.encs]
theorem bd (a b : List Tl) : (PB.encs (a ++ b)).length = (PB.encs a).length + (PB.encs b).length:=by rw [PB.encs_app,List.length_append]
theorem cd {α : Type} (f : α -> Tl) (wt : α -> Nat) (K : Nat) (h : ∀ a,(PB.enc (f a)).length <= K * wt a) : ∀ (l : List α),(PB.encs (l.map f)).length <= K * (l.map wt).sum
 | [] => by simp [PB.encs]
 | a :: l => by
  have h1:=cd f wt K h l
  have h2:=h a
  rw [List.map_cons,ai,List.map_cons,List.sum_cons,Nat.mul_add]
  omega
theorem bK (s : ByteArray) : (PB.enc (tstr s)).length <= 5 + s.size:=dt 0 4 s
theorem cH (g n : Int) : (PB.enc (tnum g n)).length <= 14:=by
 have h:=dt 0 g ⟨(PB.ofNum n).toArray⟩
 have h2:=fR n
 have e : (⟨(PB.ofNum n).toArray⟩ : ByteArray).size = (PB.ofNum n).length:=rfl
 rw [e] at h
 unfold tnum
 omega
theorem fN (q : Bool) : (PB.enc (bx q)).length <= 6:=by
 have h:=dt 0 1 (boolB q)
 have e : (boolB q).size = 1:=by cases q <;> rfl
 unfold bx
 omega
theorem cP (g : Int) (s : ByteArray) : (PB.enc (town g s)).length <= 5 + s.size:=dt 2 g s
theorem bY (ks : List Tl) : (PB.enc (aI ks)).length <= 5 + (PB.encs ks).length:=cI 0 16 ks
theorem tstrs_len (l : List ByteArray) : (PB.encs (l.map tstr)).length <= 5 * wS l:=cd tstr (fun s => 1 + s.size) 5 (fun s => by have:=bK s; omega) l
theorem towns_len (g : Int) (l : List ByteArray) : (PB.encs (l.map (town g))).length <= 5 * wS l:=cd (town g) (fun s => 1 + s.size) 5 (fun s => by have:=cP g s; omega) l
theorem tattr_len (n : ByteArray) (ss : List ByteArray) : (PB.enc (cv n ss)).length <= 15 * (1 + n.size + wS ss):=by
 unfold cv
 have h1:=bY [tstr n,.mk 0 true 17 ⟨#[]⟩ (ss.map tstr)]
 have h2:=bK n
 have h3:=cI 0 17 (ss.map tstr)
 have h4:=tstrs_len ss
 rw [ai,ai,ar] at h1
 omega
theorem tmod_len (x : Md) : (PB.enc (tmod x)).length <= 40 * mdW x:=by
 unfold tmod mdW
 have h1:=bY [tnum 10 x.1,cv x.2.1 x.2.2]
 have h2:=cH 10 x.1
 have h3:=tattr_len x.2.1 x.2.2
 rw [ai,ai,ar] at h1
 omega
theorem eb {p : Bool} {t : Tl} {n : Nat} (h : (PB.enc t).length <= n) : (PB.encs (if p then [t] else [])).length <= n:=by
 cases p with
 | true => rw [if_pos rfl,ai,ar]; omega
 | false => rw [if_neg (by decide),ar]; omega
theorem tctl_len (c : Co) : (PB.enc (tctl c)).length <= 25 * coW c:=by
 unfold tctl coW
 have h1:=bY (tstr c.1 :: ((if c.2.1 then [bx true] else []) ++ (if c.2.2.1 then [tstr c.2.2.2] else [])))
 have h2:=bK c.1
 have h3:=eb (p:=c.2.1) (fN true)
 have h4:=eb (p:=c.2.2.1) (bK c.2.2.2)
 rw [ai,bd] at h1
 omega
theorem tpieces_len (f : ByteArray) (any : List ByteArray) (l : ByteArray) : (PB.encs (aF f any l)).length <= 10 + f.size + 5 * wS any + l.size:=by
 unfold aF
 rw [bd,bd]
 have h1:=eb (p:=aj f) (cP 0 f)
 have h2:=eb (p:=aj l) (cP 2 l)
 have h3:=towns_len 1 any
 omega
mutual
theorem fS : ∀ (f : Fl),(PB.enc (a8 f)).length <= 30 * f.wt
 | .mk k a v g any l kids => by
  have ih:=ftrees_len kids
  unfold a8 Fl.wt
  split
  ·have:=cI 2 k (cg kids); omega
  split
  ·have:=cP 7 a; omega
  split
  ·have h1:=cI 2 4 [tstr a,aI (aF g any l)]
   have h2:=bK a
   have h3:=bY (aF g any l)
   have h4:=tpieces_len g any l
   rw [ai,ai,ar] at h1
   omega
  ·have h1:=cI 2 k [tstr a,tstr v]
   have h2:=bK a
   have h3:=bK v
   rw [ai,ai,ar] at h1
   omega
theorem ftrees_len : ∀ (ks : List Fl),(PB.encs (cg ks)).length <= 30 * Fl.wts ks
 | [] => by unfold cg; rw [ar]; omega
 | k :: ks => by
  have h1:=fS k
  have h2:=ftrees_len ks
  unfold cg Fl.wts
  rw [ai]
  omega
end
theorem partsT_len (M : Ms) : (PB.encs M.partsT).length <= 200 + 40 * M.wt + 30 * M.filter.wt:=by
 have n1:=bK M.name
 have n2:=bK M.kind
 have n3:=bK M.value
 have n4:=bK M.text
 have n5:=bK M.rdn
 have n6:=cP 0 M.secret
 have n7:=cP 0 M.kind
 have n8:=cP 1 M.value
 have n9:=cP 10 M.kind
 unfold Ms.partsT Ms.wt
 split
 ·unfold Ms.bindT
  have h1:=cH 2 M.version
  have h2 : (PB.enc (if M.sasl then .mk 2 true 3 ⟨#[]⟩ (tstr M.kind :: (if M.has then [tstr M.value] else [])) else town 0 M.secret)).length <= 15 + M.kind.size + M.value.size + M.secret.size:=by
   split
   ·have g1:=cI 2 3 (tstr M.kind :: (if M.has then [tstr M.value] else []))
    have g2:=eb (p:=M.has) n3
    rw [ai] at g1
    omega
   ·omega
  rw [ai,ai,ai,ar]
  omega
 split
 ·unfold Ms.seaT
  have h1:=cH 10 M.scope
  have h2:=cH 10 M.deref
  have h3:=cH 2 M.size
  have h4:=cH 2 M.time
  have h5:=fN M.types
  have h6:=fS M.filter
  have h7:=bY (M.attrs.map tstr)
  have h8:=tstrs_len M.attrs
  rw [ai,ai,ai,ai,ai,ai,ai,ai,ar]
  omega
 split
 ·unfold Ms.entT
  have h1:=bY (M.list.map tat)
  have h2 : (PB.encs (M.list.map tat)).length <= 15 * wA M.list:=cd tat atW 15 (fun a => tattr_len a.1 a.2) M.list
  rw [ai,ai,ar]
  omega
 split
 ·unfold Ms.modT
  have h1:=bY (M.mods.map tmod)
  have h2 : (PB.encs (M.mods.map tmod)).length <= 40 * wM M.mods:=cd tmod mdW 40 tmod_len M.mods
  rw [ai,ai,ar]
  omega
 split
 ·unfold Ms.renT
  have h1:=towns_len 0 M.dest
  have h2:=fN M.old
  rw [bd,ai,ai,ai,ar]
  omega
 split
 ·unfold Ms.cmpT
  have h1:=bY [tstr M.kind,tstr M.value]
  rw [ai,ai,ar] at h1
  rw [ai,ai,ar]
  omega
 split
 ·unfold Ms.extT
  have h1:=eb (p:=M.has) n8
  rw [ai]
  omega
 ·unfold Ms.ansT
  have h1:=cH 10 M.code
  have h2:=eb (p:=M.op == 24 && aj M.kind) n9
  rw [bd,ai,ai,ai,ar]
  omega
theorem opT_len (M : Ms) : (PB.enc M.opT).length <= 205 + 40 * M.wt + 30 * M.filter.wt:=by
 have h0:=partsT_len M
 unfold Ms.opT
 split
 ·have:=dt 1 2 ⟨#[]⟩
  have e : (⟨#[]⟩ : ByteArray).size = 0:=rfl
  omega
 split
 ·have:=dt 1 10 M.name
  unfold Ms.wt
  omega
 split
 ·have:=dt 1 16 ⟨(PB.ofNum M.other).toArray⟩
  have h2:=fR M.other
  have e : (⟨(PB.ofNum M.other).toArray⟩ : ByteArray).size = (PB.ofNum M.other).length:=rfl
  omega
 ·have:=cI 1 M.op M.partsT
  omega
theorem tree_len (M : Ms) (h : M.wt <= 40000) (hf : M.filter.wt <= 10000) : (PB.enc M.tree).length < 4000000:=by
 unfold Ms.tree
 have h1:=bY ([tnum 2 M.id,M.opT] ++ (if M.controls = [] then [] else [.mk 2 true 0 ⟨#[]⟩ (M.controls.map tctl)]))
 have h2:=cH 2 M.id
 have h3:=opT_len M
 have h4 : (PB.encs (if M.controls = [] then [] else [.mk 2 true 0 ⟨#[]⟩ (M.controls.map tctl)])).length <= 5 + 25 * wC M.controls:=by
  split
  ·rw [ar]; omega
  ·have g1:=cI 2 0 (M.controls.map tctl)
   have g2 : (PB.encs (M.controls.map tctl)).length <= 25 * wC M.controls:=cd tctl coW 25 tctl_len M.controls
   rw [ai,ar]
   omega
 have h5 : wC M.controls <= M.wt:=by unfold Ms.wt; omega
 rw [bd,ai,ai,ar] at h1
 omega
mutual
theorem Fl.wt_slim : ∀ (f : Fl),f.wt <= 10000 -> f.slim
 | .mk k a v g any l kids,h => by
  unfold Fl.wt at h
  have h1:=fD any
  have h2:=Fl.wts_len kids
  have ih:=Fl.wts_slim kids (by omega)
  unfold Fl.slim
  exact ⟨by omega,by omega,ih⟩
theorem Fl.wts_slim : ∀ (ks : List Fl),Fl.wts ks <= 10000 -> Fl.slims ks
 | [],_ => by unfold Fl.slims; trivial
 | k :: ks,h => by
  unfold Fl.wts at h
  unfold Fl.slims
  exact ⟨Fl.wt_slim k (by omega),Fl.wts_slim ks (by omega)⟩
theorem Fl.wts_len : ∀ (ks : List Fl),ks.length <= Fl.wts ks
 | [] => Nat.zero_le _
 | k :: ks => by
  have h1:=Fl.wts_len ks
  have h2 : 1 <= k.wt:=by obtain ⟨a,b,c,d,e,f,g⟩:=k; unfold Fl.wt; omega
  unfold Fl.wts
  rw [List.length_cons]
  omega
end
end Go.Proofs.YtbiglfpikfjbpaaGreatDoor
