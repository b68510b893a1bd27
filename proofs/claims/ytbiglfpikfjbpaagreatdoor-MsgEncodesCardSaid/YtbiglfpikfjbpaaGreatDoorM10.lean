import Derived.Test.YtbiglfpikfjbpaaGreatDoorM6
import Derived.Test.YtbiglfpikfjbpaaGreatDoorM9
import Derived.Test.YtbiglfpikfjbpaaGreatDoorM3
import Derived.Test.YtbiglfpikfjbpaaGreatDoorM5
namespace Go.Proofs.YtbiglfpikfjbpaaGreatDoor
open Go.RowKit
set_option maxRecDepth 100000
set_option linter.unusedVariables false
set_option linter.unusedSimpArgs false
set_option maxHeartbeats 40000000
def Fl.one : Fl -> Bool
 | .mk k a v f any l kids =>
  if k = 0 \/ k = 1 then aS a v f any.length l 0
  else if k = 2 then aS a v f any.length l 0 && (kids.length == 1)
  else if k = 3 \/ k = 5 \/ k = 6 \/ k = 8 then aS ⟨#[]⟩ ⟨#[]⟩ f any.length l kids.length && (aj a && decide (a.size <= 64))
  else if k = 7 then aS ⟨#[]⟩ v f any.length l kids.length && (aj a && decide (a.size <= 64))
  else if k = 4 then (aj f || (aj l || any.any aj)) && (decide (any.length <= 8) && (aS ⟨#[]⟩ v ⟨#[]⟩ 0 ⟨#[]⟩ kids.length && (aj a && decide (a.size <= 64))))
  else false
theorem Fl.one_mk (k : Int) (a v f : ByteArray) (any : List ByteArray) (l : ByteArray) (kids : List Fl) : Fl.one (.mk k a v f any l kids) = (
  if k = 0 \/ k = 1 then aS a v f any.length l 0
  else if k = 2 then aS a v f any.length l 0 && (kids.length == 1)
  else if k = 3 \/ k = 5 \/ k = 6 \/ k = 8 then aS ⟨#[]⟩ ⟨#[]⟩ f any.length l kids.length && (aj a && decide (a.size <= 64))
  else if k = 7 then aS ⟨#[]⟩ v f any.length l kids.length && (aj a && decide (a.size <= 64))
  else if k = 4 then (aj f || (aj l || any.any aj)) && (decide (any.length <= 8) && (aS ⟨#[]⟩ v ⟨#[]⟩ 0 ⟨#[]⟩ kids.length && (aj a && decide (a.size <= 64))))
  else false):=rfl
theorem one_any (f : Fl) (c : List Value) (S : Nat -> Prop) (w : World) (h : FlAt w S f c) : Calls Tryz.prog 101 #[.agg c.toArray] w (aq f.one w):=by
 obtain ⟨k,a,v,f,any,l,kids⟩:=f
 unfold FlAt at h
 obtain ⟨⟨qA,qn,qc⟩,⟨rA,rn,rc⟩,rfl,hz,hq,hr,-⟩:=h
 have hqn : qn = any.length:=hq.1
 have hrn : rn = kids.length:=hr.1
 have hcon:=fun (W : World) (hb : Below w.heap.size w W) => contains_any ⟨qA,qn,qc⟩ any S W (hq.keep al hb.size (fun x _ hlt => hb.block x hlt) (fun _ h _ => h))
 rw [Fl.one_mk]
 subst hqn hrn
 by_cases h0 : k = 0 \/ k = 1
 ·rw [if_pos h0]; exact one_0 k h0 a v f qA any.length qc l rA kids.length rc w
 rw [if_neg h0]
 by_cases h2 : k = 2
 ·subst h2; rw [if_pos rfl]; exact one_2 a v f qA any.length qc l rA kids.length rc w
 rw [if_neg h2]
 by_cases h3 : k = 3 \/ k = 5 \/ k = 6 \/ k = 8
 ·rw [if_pos h3]; exact one_3 k h3 a v f qA any.length qc l rA kids.length rc w
 rw [if_neg h3]
 by_cases h7 : k = 7
 ·subst h7; rw [if_pos rfl]; exact one_7 a v f qA any.length qc l rA kids.length rc w
 rw [if_neg h7]
 by_cases h4 : k = 4
 ·subst h4; rw [if_pos rfl]; exact one_4 a v f qA any.length qc l rA kids.length rc w _ hcon
 rw [if_neg h4]
 exact one_far k a v f qA any.length qc l rA kids.length rc w (by omega)
mutual
def Fl.cnt : Fl -> Int -> Int -> Int
 | .mk k a v f any l kids,d,x => if x - 1 < 0 \/ 8 < d \/ Fl.one (.mk k a v f any l kids) = false then -1 else Fl.cnts kids (d + 1) (x - 1)
def Fl.cnts : List Fl -> Int -> Int -> Int
 | [],_,x => x
 | k :: ks,d,x => if k.cnt d x < 0 then -1 else Fl.cnts ks d (k.cnt d x)
end
mutual
theorem Fl.cnt_le : ∀ (f : Fl) (d x : Int),-1 <= x -> f.cnt d x <= x /\ -1 <= f.cnt d x
 | .mk k a v f any l kids,d,x,hx => by
  unfold Fl.cnt
  by_cases h : x - 1 < 0 \/ 8 < d \/ Fl.one (.mk k a v f any l kids) = false
  ·rw [if_pos h]; omega
  ·rw [if_neg h]
   have:=Fl.cnts_le kids (d + 1) (x - 1) (by omega)
   omega
theorem Fl.cnts_le : ∀ (ks : List Fl) (d x : Int),-1 <= x -> Fl.cnts ks d x <= x /\ -1 <= Fl.cnts ks d x
 | [],d,x,hx => by unfold Fl.cnts; omega
 | k :: ks,d,x,hx => by
  unfold Fl.cnts
  have h1:=Fl.cnt_le k d x hx
  by_cases h : k.cnt d x < 0
  ·rw [if_pos h]; omega
  ·rw [if_neg h]
   have:=Fl.cnts_le ks d (k.cnt d x) h1.2
   omega
end
theorem Fl.cnts_drop {ks : List Fl} {d x : Int} {j : Nat} (h : j < ks.length) : Fl.cnts (ks.drop j) d x = if ks[j].cnt d x < 0 then -1 else Fl.cnts (ks.drop (j + 1)) d (ks[j].cnt d x):=by
 rw [List.drop_eq_getElem_cons h,Fl.cnts]
theorem count_no (f : Fl) (c : List Value) (S : Nat -> Prop) (d x : Int) (w : World) (h : FlAt w S f c) (hd : 0 <= d /\ d <= 9) (hx : -1 <= x /\ x <= 40) (hn : x - 1 < 0 \/ 8 < d \/ f.one = false) :
  Calls Tryz.prog 90 #[.agg c.toArray,.int .i64 d,.int .i64 x] w (fH (-1) w):=by
 obtain ⟨y0,y1,y2,y3,y5,yA,yn,yc,zA,zn,zc,rfl⟩:=aY h
 have hb:=(Below.refl w.heap.size w).alloc (Nat.le_refl _) (.cells #[.int .i64 y0,.string y1,.string y2,.string y3,.slice yA yn yc,.string y5,.slice zA zn zc] 25)
 have HB:=aa hb
 obtain ⟨hd1,hd2⟩:=hd
 obtain ⟨hx1,hx2⟩:=hx
 by_cases hx0 : x - 1 < 0
 ·have z1 : decide (x - 1 < 0) = true:=ab hx0
  have z2 : decide (x < 1) = true:=ab (by omega)
  clear hn h hb
  go_enter Tryz.func90,Tryz.ntmps90
  go_wp2_with fail
  go_ret
  exact dP rfl HB.out
 by_cases hd0 : 8 < d
 ·have z1 : decide (x - 1 < 0) = false:=ae hx0
  have z2 : decide (x < 1) = false:=ae (by omega)
  have z3 : decide (8 < d) = true:=ab hd0
  clear hn h hb
  go_enter Tryz.func90,Tryz.ntmps90
  go_wp2_with fail
  go_ret
  exact dP rfl HB.out
 have z1 : decide (x - 1 < 0) = false:=ae hx0
 have z2 : decide (x < 1) = false:=ae (by omega)
 have z3 : decide (8 < d) = false:=ae hd0
 have ho : f.one = false:=by rcases hn with h | h | h; exact absurd h hx0; exact absurd h hd0; exact h
 have HO:=aa (show Calls Tryz.prog 101 #[.agg #[.int .i64 y0,.string y1,.string y2,.string y3,.slice yA yn yc,.string y5,.slice zA zn zc]] _ (aq false _) by
  have:=one_any f _ S _ (FlAt.keep (T:=S) hb.size (fun x _ hlt => hb.block x hlt) (fun _ h _ => h) _ _ h); rwa [ho] at this)
 clear hn h hb ho
 go_enter Tryz.func90,Tryz.ntmps90
 go_wp2_with fail
 (go_at_call 101)
 refine HO.out.mono ?_
 rintro e w1 ⟨rfl,hb1⟩
 have HB1:=aa (HB.out.trans (hb1.mono HB.out.size))
 clear hb1
 go_wp2_with fail
 go_ret
 exact dP rfl HB1.out
theorem count_yes (k : Int) (a v f : ByteArray) (any : List ByteArray) (l : ByteArray) (kids : List Fl) (c : List Value) (S : Nat -> Prop) (d x : Int) (w : World) (h : FlAt w S (.mk k a v f any l kids) c) (hd : 0 <= d /\ d <= 8) (hx : 1 <= x /\ x <= 40) (hone : Fl.one (.mk k a v f any l kids) = true)
  (ih : ∀ y ∈ kids,∀ (c : List Value) (S : Nat -> Prop) (d x : Int) (w : World),FlAt w S y c -> 0 <= d /\ d <= 9 -> -1 <= x /\ x <= 40 -> Calls Tryz.prog 90 #[.agg c.toArray,.int .i64 d,.int .i64 x] w (fH (y.cnt d x) w)) :
  Calls Tryz.prog 90 #[.agg c.toArray,.int .i64 d,.int .i64 x] w (fH (Fl.cnts kids (d + 1) (x - 1)) w):=by
 have hfl:=h
 unfold FlAt at h
 obtain ⟨⟨qA,qn,qc⟩,⟨rA,rn,rc⟩,rfl,hz,hq,⟨hr1,hr2,hr3⟩,hks⟩:=h
 simp only at hr1 hr2 hr3 hks hfl |-
 subst hr1
 have hb:=(Below.refl w.heap.size w).alloc (Nat.le_refl _) (.cells #[.int .i64 k,.string a,.string v,.string f,.slice qA qn qc,.string l,.slice rA kids.length rc] 25)
 have HB:=aa hb
 have HBX:=aa (Bk.new w 25 #[.int .i64 k,.string a,.string v,.string f,.slice qA qn qc,.string l,.slice rA kids.length rc])
 obtain ⟨hd1,hd2⟩:=hd
 obtain ⟨hx1,hx2⟩:=hx
 have z1 : decide (x - 1 < 0) = false:=ae (by omega)
 have z2 : decide (x < 1) = false:=ae (by omega)
 have z3 : decide (8 < d) = false:=ae (by omega)
 have hrm : rc <= 9223372036854775807:=by unfold maxLen at hr3; omega
 have HO:=aa (show Calls Tryz.prog 101 #[.agg #[.int .i64 k,.string a,.string v,.string f,.slice qA qn qc,.string l,.slice rA kids.length rc]] _ (aq true _) by
  have:=one_any _ _ S _ (FlAt.keep (T:=S) hb.size (fun x _ hlt => hb.block x hlt) (fun _ h _ => h) _ _ hfl); rwa [hone] at this)
 have HK:=aa hks
 have IH:=aa ih
 clear hfl hb hone hz hq hr3 hks ih
 go_enter Tryz.func90,Tryz.ntmps90
 go_wp2_with fail
 (go_at_call 101)
 refine HO.out.mono ?_
 rintro e w1 ⟨rfl,hb1⟩
 have hbx:=af HBX.out hb1
 have e6 : w1.cell? ⟨w.heap.size,6,none⟩ = some (.slice rA kids.length rc):=hbx.cell 6
 have HB1:=aa (HB.out.trans (hb1.mono HB.out.size))
 have hs1 : w.heap.size < w1.heap.size:=hbx.lt
 clear hb1 hbx HO
 go_wp2_with fail
 go_loopw [2,25] (fun lf i wr => ∃ (j : Nat) (y : Int),i = .int .i64 j /\ lf = .int .i64 y /\ j <= kids.length /\ 0 <= y /\ y <= 40 /\ Hid (Fl.cnts kids (d + 1) (x - 1) = Fl.cnts (kids.drop j) (d + 1) y) /\ Below w.heap.size w wr) (fun _ i _ => kids.length - (intOf i).toNat)
 case atStart => exact ⟨0,x - 1,rfl,rfl,Nat.zero_le _,by omega,by omega,rfl,HB1.out⟩
 case round =>
  obtain ⟨j,y,rfl,rfl,hj,hy1,hy2,HT,hbw⟩:=hrel
  have HBW:=aa hbw
  by_cases hlt : j < kids.length
  ·obtain ⟨b,o,c,rfl,hS,hc1,hcl,hfk⟩:=HK.out.get j kids[j] (List.getElem?_eq_getElem hlt)
   rw [Nat.zero_add] at hcl
   obtain ⟨y0,y1,y2,y3,y5,yA,yn,yc,zA,zn,zc,rfl⟩:=aY hfk
   have hbl : b < w.heap.size:=hS.2
   have hcw : ∀ o',wr.cell? ⟨b,o',none⟩ = w.cell? ⟨b,o',none⟩:=fun o' => hbw.cell (p:=⟨b,o',none⟩) hbl
   have q0 : wr.cell? ⟨b,o + j * 7,none⟩ = some (.int .i64 y0):=(hcw _).trans (hcl 0 _ rfl)
   have q1 : wr.cell? ⟨b,o + j * 7 + 1,none⟩ = some (.string y1):=(hcw _).trans (hcl 1 _ rfl)
   have q2 : wr.cell? ⟨b,o + j * 7 + 2,none⟩ = some (.string y2):=(hcw _).trans (hcl 2 _ rfl)
   have q3 : wr.cell? ⟨b,o + j * 7 + 3,none⟩ = some (.string y3):=(hcw _).trans (hcl 3 _ rfl)
   have q4 : wr.cell? ⟨b,o + j * 7 + 4,none⟩ = some (.slice yA yn yc):=(hcw _).trans (hcl 4 _ rfl)
   have q5 : wr.cell? ⟨b,o + j * 7 + 5,none⟩ = some (.string y5):=(hcw _).trans (hcl 5 _ rfl)
   have q6 : wr.cell? ⟨b,o + j * 7 + 6,none⟩ = some (.slice zA zn zc):=(hcw _).trans (hcl 6 _ rfl)
   have hba:=(Below.refl wr.heap.size wr).alloc (Nat.le_refl _) (.cells #[.int .i64 y0,.string y1,.string y2,.string y3,.slice yA yn yc,.string y5,.slice zA zn zc] 25)
   have hball:=hbw.trans (hba.mono hbw.size)
   have HC:=aa (IH.out kids[j] (List.getElem_mem hlt) _ S (d + 1) y _ (FlAt.keep (T:=S) hball.size (fun x _ hlt => hball.block x hlt) (fun _ h _ => h) _ _ hfk) (by omega) (by omega))
   have HDR:=aa (Fl.cnts_drop (d:=d + 1) (x:=y) hlt)
   have hle:=Fl.cnt_le kids[j] (d + 1) y (by omega)
   obtain ⟨n,hn⟩ : ∃ n,n = kids[j].cnt (d + 1) y:=⟨_,rfl⟩
   rw [<- hn] at HC HDR hle
   obtain ⟨hle1,hle2⟩:=hle
   have z4 : decide (j < kids.length) = true:=ab hlt
   have HBA:=aa hball
   have hbr : b < wr.heap.size:=Nat.lt_of_lt_of_le hbl hbw.size
   clear hn hS hc1 hcl hfk hcw hba hball hbw
   go_wp2_with fail
   (go_at_call 90)
   refine HC.out.mono ?_
   rintro e w2 ⟨rfl,hb2⟩
   have HB2:=aa (HBA.out.trans (hb2.mono HBA.out.size))
   clear hb2 HC
   by_cases hneg : n < 0
   ·have z5 : decide (n < 0) = true:=ab hneg
    have HNG:=aa hneg
    clear hneg
    go_wp2_with fail
    go_ret
    exact dP (by rw [HT.out,HDR.out,if_pos HNG.out]) HB2.out
   ·have z5 : decide (n < 0) = false:=ae hneg
    have HNG:=aa (show 0 <= n by omega)
    clear hneg
    go_wp2_with fail
    go_roundw
    case rel => exact ⟨j + 1,n,by go_num,rfl,by omega,HNG.out,by omega,show _ = _ by rw [HT.out,HDR.out,if_neg (by have:=HNG.out; omega)],HB2.out⟩
    case measure => simp [intOf]; omega
  ·obtain rfl : j = kids.length:=by omega
   have z4 : decide (kids.length < kids.length) = false:=by simp
   clear hbw
   go_wp2_with fail
   go_ret
   exact dP (by rw [HT.out,List.drop_length]; simp [Fl.cnts]) HBW.out
mutual
theorem count_any : ∀ (f : Fl) (c : List Value) (S : Nat -> Prop) (d x : Int) (w : World),FlAt w S f c -> 0 <= d /\ d <= 9 -> -1 <= x /\ x <= 40 -> Calls Tryz.prog 90 #[.agg c.toArray,.int .i64 d,.int .i64 x] w (fH (f.cnt d x) w)
 | .mk k a v f any l kids,c,S,d,x,w,h,hd,hx => by
  have ih:=counts_any kids
  unfold Fl.cnt
  by_cases hn : x - 1 < 0 \/ 8 < d \/ Fl.one (.mk k a v f any l kids) = false
  ·rw [if_pos hn]
   exact count_no _ c S d x w h hd hx hn
  ·rw [if_neg hn]
   exact count_yes k a v f any l kids c S d x w h (by omega) (by omega) (by cases ho : Fl.one (.mk k a v f any l kids) with | true => rfl | false => exact absurd (.inr (.inr ho)) hn) ih
theorem counts_any : ∀ (ks : List Fl),∀ y ∈ ks,∀ (c : List Value) (S : Nat -> Prop) (d x : Int) (w : World),FlAt w S y c -> 0 <= d /\ d <= 9 -> -1 <= x /\ x <= 40 -> Calls Tryz.prog 90 #[.agg c.toArray,.int .i64 d,.int .i64 x] w (fH (y.cnt d x) w)
 | [],y,h => by simp at h
 | k :: ks,y,h => fun c S d x w hf hd hx => by
  have h1:=count_any k
  have h2:=counts_any ks
  rcases List.mem_cons.1 h with rfl | h
  ·exact h1 c S d x w hf hd hx
  ·exact h2 y h c S d x w hf hd hx
end
def Fl.right (f : Fl) : Bool:=decide (0 <= f.cnt 1 40)
theorem fright_any (f : Fl) (c : List Value) (S : Nat -> Prop) (w : World) (h : FlAt w S f c) : Calls Tryz.prog 62 #[.agg c.toArray] w (aq f.right w):=by
 obtain ⟨y0,y1,y2,y3,y5,yA,yn,yc,zA,zn,zc,rfl⟩:=aY h
 have hb:=(Below.refl w.heap.size w).alloc (Nat.le_refl _) (.cells #[.int .i64 y0,.string y1,.string y2,.string y3,.slice yA yn yc,.string y5,.slice zA zn zc] 25)
 have HB:=aa hb
 have HC:=aa (count_any f _ S 1 40 _ (FlAt.keep (T:=S) hb.size (fun x _ hlt => hb.block x hlt) (fun _ h _ => h) _ _ h) (by omega) (by omega))
 unfold Fl.right
 obtain ⟨n,hn⟩ : ∃ n,n = f.cnt 1 40:=⟨_,rfl⟩
 rw [<- hn] at HC |-
 clear h hb hn
 go_enter Tryz.func62,Tryz.ntmps62
 go_wp2_with fail
 (go_at_call 90)
 refine HC.out.mono ?_
 rintro e w1 ⟨rfl,hb1⟩
 have HB1:=aa (HB.out.trans (hb1.mono HB.out.size))
 clear hb1 HC
 go_wp2_with fail
 go_ret
 exact ah rfl HB1.out
theorem rng_bind (M : Ms) (m : MC) (S : Nat -> Prop) (w : World) (h : MsAt w S M m) (hop : M.op = 0) :
  Calls Tryz.prog 31 #[.agg m.cells] w (aq (inB M.version 1 127 && (M.has || (!M.sasl || !aj M.value))) w):=by
 obtain ⟨p,hp⟩ : ∃ p,p = (inB M.version 1 127 && (M.has || (!M.sasl || !aj M.value))):=⟨_,rfl⟩
 rw [<- hp]
 have HP:=aa hp
 obtain ⟨f,at',li,mo,de,co,rfl,hfit,hfl,hat,hli,hmo,hde,hco⟩:=h
 obtain ⟨cs,hcs⟩ : ∃ cs,cs = (M.mc f at' li mo de co).cells:=⟨_,rfl⟩
 have c1 : cs[1]? = some (.int .i64 (0)):=by rw [hcs,<- hop]; rfl
 have c2 : cs[2]? = some (.int .i64 M.version):=by rw [hcs]; rfl
 have c4 : cs[4]? = some (.bool M.sasl):=by rw [hcs]; rfl
 have c7 : cs[7]? = some (.bool M.has):=by rw [hcs]; rfl
 have c8 : cs[8]? = some (.string M.value):=by rw [hcs]; rfl
 rw [<- hcs]
 have HB:=aa ((Below.refl w.heap.size w).alloc (Nat.le_refl _) (.cells cs 30))
 clear hp hcs hop hfit hfl hat hli hmo hde hco
 go_enter Tryz.func31,Tryz.ntmps31
 go_wp2_with fail
 (go_at_call 30)
 refine (bh M.version 1 127 _).mono ?_
 cases hin : inB M.version 1 127 with
 | false =>
  rintro e w1 ⟨rfl,rfl⟩
  have Hin:=aa hin
  clear hin
  go_wp2_with fail
  go_ret
  exact ah (by rw [HP.out,Hin.out]; simp) HB.out
 | true =>
  rintro e w1 ⟨rfl,rfl⟩
  have Hin:=aa hin
  clear hin
  cases hh : M.has with
  | true =>
   have c7':=c7
   rw [hh] at c7
   have HH:=aa hh
   clear hh c7'
   go_wp2_with fail
   go_ret
   exact ah (by rw [HP.out,Hin.out,HH.out]; simp) HB.out
  | false =>
   rw [hh] at c7
   have HH:=aa hh
   clear hh
   cases hs : M.sasl with
   | false =>
    rw [hs] at c4
    have HS:=aa hs
    clear hs
    go_wp2_with fail
    go_ret
    exact ah (by rw [HP.out,Hin.out,HH.out,HS.out]; simp) HB.out
   | true =>
    rw [hs] at c4
    have HS:=aa hs
    clear hs
    obtain ⟨x,hx⟩ : ∃ x,x = M.value:=⟨_,rfl⟩
    rw [<- hx] at c8
    cases hv : aj x with
    | false =>
     have v1:=(aE hv).1
     have v2:=(aE hv).2
     have v3 : (!x.toList.isEmpty) = false:=hv
     have HV:=aa (show aj M.value = false by rw [<- hx]; exact hv)
     clear hv hx
     go_wp2_with fail
     go_ret
     exact ah (by rw [HP.out,Hin.out,HH.out,HS.out,HV.out]; simp) HB.out
    | true =>
     have v1:=aU hv
     have v3 : (!x.toList.isEmpty) = true:=hv
     have HV:=aa (show aj M.value = true by rw [<- hx]; exact hv)
     clear hv hx
     go_wp2_with fail
     go_ret
     exact ah (by rw [HP.out,Hin.out,HH.out,HS.out,HV.out]; simp) HB.out
theorem rng_search (M : Ms) (m : MC) (S : Nat -> Prop) (w : World) (h : MsAt w S M m) (hop : M.op = 3) :
  Calls Tryz.prog 31 #[.agg m.cells] w (aq (inB M.scope 0 2 && (inB M.deref 0 3 && (inB M.size 0 2147483647 && (inB M.time 0 2147483647 && M.filter.right)))) w):=by
 obtain ⟨p,hp⟩ : ∃ p,p = (inB M.scope 0 2 && (inB M.deref 0 3 && (inB M.size 0 2147483647 && (inB M.time 0 2147483647 && M.filter.right)))):=⟨_,rfl⟩
 rw [<- hp]
 have HP:=aa hp
 obtain ⟨f,at',li,mo,de,co,rfl,hfit,hfl,hat,hli,hmo,hde,hco⟩:=h
 obtain ⟨cs,hcs⟩ : ∃ cs,cs = (M.mc f at' li mo de co).cells:=⟨_,rfl⟩
 have c1 : cs[1]? = some (.int .i64 (3)):=by rw [hcs,<- hop]; rfl
 have c11 : cs[11]? = some (.int .i64 M.scope):=by rw [hcs]; rfl
 have c12 : cs[12]? = some (.int .i64 M.deref):=by rw [hcs]; rfl
 have c13 : cs[13]? = some (.int .i64 M.size):=by rw [hcs]; rfl
 have c14 : cs[14]? = some (.int .i64 M.time):=by rw [hcs]; rfl
 have c16 : cs[16]? = some (.int .i64 f.kind):=by rw [hcs]; rfl
 have c17 : cs[17]? = some (.string f.attr):=by rw [hcs]; rfl
 have c18 : cs[18]? = some (.string f.value):=by rw [hcs]; rfl
 have c19 : cs[19]? = some (.string f.first):=by rw [hcs]; rfl
 have c20 : cs[20]? = some (.slice f.any.A f.any.n f.any.c):=by rw [hcs]; rfl
 have c21 : cs[21]? = some (.string f.last):=by rw [hcs]; rfl
 have c22 : cs[22]? = some (.slice f.kids.A f.kids.n f.kids.c):=by rw [hcs]; rfl
 rw [<- hcs]
 have HB:=aa ((Below.refl w.heap.size w).alloc (Nat.le_refl _) (.cells cs 30))
 have HR:=aa (fright_any M.filter f.cells S (w.alloc (.cells cs 30)) (FlAt.keep (T:=S) HB.out.size (fun x _ hlt => HB.out.block x hlt) (fun _ h _ => h) _ _ hfl))
 obtain ⟨q,hq⟩ : ∃ q,q = M.filter.right:=⟨_,rfl⟩
 have HQ:=aa hq
 rw [<- hq] at HR
 clear hq
 clear hp hcs hop hfit hfl hat hli hmo hde hco
 go_enter Tryz.func31,Tryz.ntmps31
 go_wp2_with fail
 (go_at_call 30)
 refine (bh M.scope 0 2 _).mono ?_
 cases ha : inB M.scope 0 2 with
 | false =>
  rintro e w1 ⟨rfl,rfl⟩
  have Ha:=aa ha
  clear ha
  go_wp2_with fail
  go_ret
  exact ah (by rw [HP.out,Ha.out]; simp) HB.out
 | true =>
  rintro e w1 ⟨rfl,rfl⟩
  have Ha:=aa ha
  clear ha
  go_wp2_with fail
  (go_at_call 30)
  refine (bh M.deref 0 3 _).mono ?_
  cases hb : inB M.deref 0 3 with
  | false =>
   rintro e w1 ⟨rfl,rfl⟩
   have Hb:=aa hb
   clear hb
   go_wp2_with fail
   go_ret
   exact ah (by rw [HP.out,Ha.out,Hb.out]; simp) HB.out
  | true =>
   rintro e w1 ⟨rfl,rfl⟩
   have Hb:=aa hb
   clear hb
   go_wp2_with fail
   (go_at_call 30)
   refine (bh M.size 0 2147483647 _).mono ?_
   cases hc : inB M.size 0 2147483647 with
   | false =>
    rintro e w1 ⟨rfl,rfl⟩
    have Hc:=aa hc
    clear hc
    go_wp2_with fail
    go_ret
    exact ah (by rw [HP.out,Ha.out,Hb.out,Hc.out]; simp) HB.out
   | true =>
    rintro e w1 ⟨rfl,rfl⟩
    have Hc:=aa hc
    clear hc
    go_wp2_with fail
    (go_at_call 30)
    refine (bh M.time 0 2147483647 _).mono ?_
    cases hd : inB M.time 0 2147483647 with
    | false =>
     rintro e w1 ⟨rfl,rfl⟩
     have Hd:=aa hd
     clear hd
     go_wp2_with fail
     go_ret
     exact ah (by rw [HP.out,Ha.out,Hb.out,Hc.out,Hd.out]; simp) HB.out
    | true =>
     rintro e w1 ⟨rfl,rfl⟩
     have Hd:=aa hd
     clear hd
     go_wp2_with fail
     (go_at_call 62)
     refine HR.out.mono ?_
     rintro e w2 ⟨rfl,hb2⟩
     have HB2:=aa (HB.out.trans (hb2.mono HB.out.size))
     clear hb2 HR
     cases q with
     | false =>
      go_wp2_with fail
      go_ret
      exact ah (by rw [HP.out,Ha.out,Hb.out,Hc.out,Hd.out,<- HQ.out]; simp) HB2.out
     | true =>
      go_wp2_with fail
      go_ret
      exact ah (by rw [HP.out,Ha.out,Hb.out,Hc.out,Hd.out,<- HQ.out]; simp) HB2.out
theorem rng_rename (M : Ms) (m : MC) (S : Nat -> Prop) (w : World) (h : MsAt w S M m) (hop : M.op = 12) :
  Calls Tryz.prog 31 #[.agg m.cells] w (aq (decide (M.dest.length <= 1)) w):=by
 obtain ⟨p,hp⟩ : ∃ p,p = (decide (M.dest.length <= 1)):=⟨_,rfl⟩
 rw [<- hp]
 have HP:=aa hp
 obtain ⟨f,at',li,mo,de,co,rfl,hfit,hfl,hat,hli,hmo,hde,hco⟩:=h
 obtain ⟨cs,hcs⟩ : ∃ cs,cs = (M.mc f at' li mo de co).cells:=⟨_,rfl⟩
 have c1 : cs[1]? = some (.int .i64 (12)):=by rw [hcs,<- hop]; rfl
 have c28 : cs[28]? = some (.slice de.A de.n de.c):=by rw [hcs]; rfl
 rw [<- hcs]
 have HB:=aa ((Below.refl w.heap.size w).alloc (Nat.le_refl _) (.cells cs 30))
 have hdn : de.n = M.dest.length:=hde.1
 obtain ⟨dA,dn,dc⟩:=de
 simp only at hdn c28
 subst hdn
 clear hp hcs hop hfit hfl hat hli hmo hde hco
 go_enter Tryz.func31,Tryz.ntmps31
 cases hq : decide (M.dest.length <= 1) with
 | false =>
  have q1 : decide ((M.dest.length : Int) <= 1) = false:=by simp at hq |-; omega
  have HQ:=aa hq
  clear hq
  go_wp2_with fail
  go_ret
  exact ah (by rw [HP.out,HQ.out]) HB.out
 | true =>
  have q1 : decide ((M.dest.length : Int) <= 1) = true:=by simp at hq |-; omega
  have HQ:=aa hq
  clear hq
  go_wp2_with fail
  go_ret
  exact ah (by rw [HP.out,HQ.out]) HB.out
theorem rng_abandon (M : Ms) (m : MC) (S : Nat -> Prop) (w : World) (h : MsAt w S M m) (hop : M.op = 16) :
  Calls Tryz.prog 31 #[.agg m.cells] w (aq (inB M.other 0 2147483647) w):=by
 obtain ⟨p,hp⟩ : ∃ p,p = (inB M.other 0 2147483647):=⟨_,rfl⟩
 rw [<- hp]
 have HP:=aa hp
 obtain ⟨f,at',li,mo,de,co,rfl,hfit,hfl,hat,hli,hmo,hde,hco⟩:=h
 obtain ⟨cs,hcs⟩ : ∃ cs,cs = (M.mc f at' li mo de co).cells:=⟨_,rfl⟩
 have c1 : cs[1]? = some (.int .i64 (16)):=by rw [hcs,<- hop]; rfl
 have c29 : cs[29]? = some (.int .i64 M.other):=by rw [hcs]; rfl
 rw [<- hcs]
 have HB:=aa ((Below.refl w.heap.size w).alloc (Nat.le_refl _) (.cells cs 30))
 clear hp hcs hop hfit hfl hat hli hmo hde hco
 go_enter Tryz.func31,Tryz.ntmps31
 go_wp2_with fail
 (go_at_call 30)
 refine (bh M.other 0 2147483647 _).mono ?_
 cases ha : inB M.other 0 2147483647 with
 | false =>
  rintro e w1 ⟨rfl,rfl⟩
  have Ha:=aa ha
  clear ha
  go_wp2_with fail
  go_ret
  exact ah (by rw [HP.out,Ha.out]) HB.out
 | true =>
  rintro e w1 ⟨rfl,rfl⟩
  have Ha:=aa ha
  clear ha
  go_wp2_with fail
  go_ret
  exact ah (by rw [HP.out,Ha.out]) HB.out
theorem rng_ext (M : Ms) (m : MC) (S : Nat -> Prop) (w : World) (h : MsAt w S M m) (hop : M.op = 23) :
  Calls Tryz.prog 31 #[.agg m.cells] w (aq (M.has || !aj M.value) w):=by
 obtain ⟨p,hp⟩ : ∃ p,p = (M.has || !aj M.value):=⟨_,rfl⟩
 rw [<- hp]
 have HP:=aa hp
 obtain ⟨f,at',li,mo,de,co,rfl,hfit,hfl,hat,hli,hmo,hde,hco⟩:=h
 obtain ⟨cs,hcs⟩ : ∃ cs,cs = (M.mc f at' li mo de co).cells:=⟨_,rfl⟩
 have c1 : cs[1]? = some (.int .i64 (23)):=by rw [hcs,<- hop]; rfl
 have c7 : cs[7]? = some (.bool M.has):=by rw [hcs]; rfl
 have c8 : cs[8]? = some (.string M.value):=by rw [hcs]; rfl
 rw [<- hcs]
 have HB:=aa ((Below.refl w.heap.size w).alloc (Nat.le_refl _) (.cells cs 30))
 clear hp hcs hop hfit hfl hat hli hmo hde hco
 go_enter Tryz.func31,Tryz.ntmps31
 cases hh : M.has with
 | true =>
  rw [hh] at c7
  have HH:=aa hh
  clear hh
  go_wp2_with fail
  go_ret
  exact ah (by rw [HP.out,HH.out]; simp) HB.out
 | false =>
  rw [hh] at c7
  have HH:=aa hh
  clear hh
  obtain ⟨x,hx⟩ : ∃ x,x = M.value:=⟨_,rfl⟩
  rw [<- hx] at c8
  cases hv : aj x with
  | false =>
   have v1:=(aE hv).1
   have v2:=(aE hv).2
   have v3 : (!x.toList.isEmpty) = false:=hv
   have HV:=aa (show aj M.value = false by rw [<- hx]; exact hv)
   clear hv hx
   go_wp2_with fail
   go_ret
   exact ah (by rw [HP.out,HH.out,HV.out]; simp) HB.out
  | true =>
   have v1:=aU hv
   have v3 : (!x.toList.isEmpty) = true:=hv
   have HV:=aa (show aj M.value = true by rw [<- hx]; exact hv)
   clear hv hx
   go_wp2_with fail
   go_ret
   exact ah (by rw [HP.out,HH.out,HV.out]; simp) HB.out
theorem rng_free2 (M : Ms) (m : MC) (S : Nat -> Prop) (w : World) (h : MsAt w S M m) (hop : M.op = 2) :
  Calls Tryz.prog 31 #[.agg m.cells] w (aq (true) w):=by
 obtain ⟨p,hp⟩ : ∃ p,p = (true):=⟨_,rfl⟩
 rw [<- hp]
 have HP:=aa hp
 obtain ⟨f,at',li,mo,de,co,rfl,hfit,hfl,hat,hli,hmo,hde,hco⟩:=h
 obtain ⟨cs,hcs⟩ : ∃ cs,cs = (M.mc f at' li mo de co).cells:=⟨_,rfl⟩
 have c1 : cs[1]? = some (.int .i64 (2)):=by rw [hcs,<- hop]; rfl
 rw [<- hcs]
 have HB:=aa ((Below.refl w.heap.size w).alloc (Nat.le_refl _) (.cells cs 30))
 clear hp hcs hop hfit hfl hat hli hmo hde hco
 go_enter Tryz.func31,Tryz.ntmps31
 go_wp2_with fail
 go_ret
 exact ah HP.out HB.out
theorem rng_free4 (M : Ms) (m : MC) (S : Nat -> Prop) (w : World) (h : MsAt w S M m) (hop : M.op = 4) :
  Calls Tryz.prog 31 #[.agg m.cells] w (aq (true) w):=by
 obtain ⟨p,hp⟩ : ∃ p,p = (true):=⟨_,rfl⟩
 rw [<- hp]
 have HP:=aa hp
 obtain ⟨f,at',li,mo,de,co,rfl,hfit,hfl,hat,hli,hmo,hde,hco⟩:=h
 obtain ⟨cs,hcs⟩ : ∃ cs,cs = (M.mc f at' li mo de co).cells:=⟨_,rfl⟩
 have c1 : cs[1]? = some (.int .i64 (4)):=by rw [hcs,<- hop]; rfl
 rw [<- hcs]
 have HB:=aa ((Below.refl w.heap.size w).alloc (Nat.le_refl _) (.cells cs 30))
 clear hp hcs hop hfit hfl hat hli hmo hde hco
 go_enter Tryz.func31,Tryz.ntmps31
 go_wp2_with fail
 go_ret
 exact ah HP.out HB.out
theorem rng_free8 (M : Ms) (m : MC) (S : Nat -> Prop) (w : World) (h : MsAt w S M m) (hop : M.op = 8) :
  Calls Tryz.prog 31 #[.agg m.cells] w (aq (true) w):=by
 obtain ⟨p,hp⟩ : ∃ p,p = (true):=⟨_,rfl⟩
 rw [<- hp]
 have HP:=aa hp
 obtain ⟨f,at',li,mo,de,co,rfl,hfit,hfl,hat,hli,hmo,hde,hco⟩:=h
 obtain ⟨cs,hcs⟩ : ∃ cs,cs = (M.mc f at' li mo de co).cells:=⟨_,rfl⟩
 have c1 : cs[1]? = some (.int .i64 (8)):=by rw [hcs,<- hop]; rfl
 rw [<- hcs]
 have HB:=aa ((Below.refl w.heap.size w).alloc (Nat.le_refl _) (.cells cs 30))
 clear hp hcs hop hfit hfl hat hli hmo hde hco
 go_enter Tryz.func31,Tryz.ntmps31
 go_wp2_with fail
 go_ret
 exact ah HP.out HB.out
theorem rng_free10 (M : Ms) (m : MC) (S : Nat -> Prop) (w : World) (h : MsAt w S M m) (hop : M.op = 10) :
  Calls Tryz.prog 31 #[.agg m.cells] w (aq (true) w):=by
 obtain ⟨p,hp⟩ : ∃ p,p = (true):=⟨_,rfl⟩
 rw [<- hp]
 have HP:=aa hp
 obtain ⟨f,at',li,mo,de,co,rfl,hfit,hfl,hat,hli,hmo,hde,hco⟩:=h
 obtain ⟨cs,hcs⟩ : ∃ cs,cs = (M.mc f at' li mo de co).cells:=⟨_,rfl⟩
 have c1 : cs[1]? = some (.int .i64 (10)):=by rw [hcs,<- hop]; rfl
 rw [<- hcs]
 have HB:=aa ((Below.refl w.heap.size w).alloc (Nat.le_refl _) (.cells cs 30))
 clear hp hcs hop hfit hfl hat hli hmo hde hco
 go_enter Tryz.func31,Tryz.ntmps31
 go_wp2_with fail
 go_ret
 exact ah HP.out HB.out
theorem rng_free14 (M : Ms) (m : MC) (S : Nat -> Prop) (w : World) (h : MsAt w S M m) (hop : M.op = 14) :
  Calls Tryz.prog 31 #[.agg m.cells] w (aq (true) w):=by
 obtain ⟨p,hp⟩ : ∃ p,p = (true):=⟨_,rfl⟩
 rw [<- hp]
 have HP:=aa hp
 obtain ⟨f,at',li,mo,de,co,rfl,hfit,hfl,hat,hli,hmo,hde,hco⟩:=h
 obtain ⟨cs,hcs⟩ : ∃ cs,cs = (M.mc f at' li mo de co).cells:=⟨_,rfl⟩
 have c1 : cs[1]? = some (.int .i64 (14)):=by rw [hcs,<- hop]; rfl
 rw [<- hcs]
 have HB:=aa ((Below.refl w.heap.size w).alloc (Nat.le_refl _) (.cells cs 30))
 clear hp hcs hop hfit hfl hat hli hmo hde hco
 go_enter Tryz.func31,Tryz.ntmps31
 go_wp2_with fail
 go_ret
 exact ah HP.out HB.out
theorem rng_answer (M : Ms) (m : MC) (S : Nat -> Prop) (w : World) (h : MsAt w S M m) (hop : M.op = M.op) (ha : AnsAt w) (hno : M.op ≠ 0 /\ M.op ≠ 3 /\ M.op ≠ 6 /\ M.op ≠ 12 /\ M.op ≠ 16 /\ M.op ≠ 23 /\ M.op ≠ 2 /\ M.op ≠ 4 /\ M.op ≠ 8 /\ M.op ≠ 10 /\ M.op ≠ 14) :
  Calls Tryz.prog 31 #[.agg m.cells] w (aq (aD M.op && inB M.code 0 127) w):=by
 obtain ⟨p,hp⟩ : ∃ p,p = (aD M.op && inB M.code 0 127):=⟨_,rfl⟩
 rw [<- hp]
 have HP:=aa hp
 obtain ⟨f,at',li,mo,de,co,rfl,hfit,hfl,hat,hli,hmo,hde,hco⟩:=h
 obtain ⟨cs,hcs⟩ : ∃ cs,cs = (M.mc f at' li mo de co).cells:=⟨_,rfl⟩
 have c1 : cs[1]? = some (.int .i64 (M.op)):=by rw [hcs]; rfl
 have c9 : cs[9]? = some (.int .i64 M.code):=by rw [hcs]; rfl
 rw [<- hcs]
 have HB:=aa ((Below.refl w.heap.size w).alloc (Nat.le_refl _) (.cells cs 30))
 obtain ⟨n0,n3,n6,n12,n16,n23,n2,n4,n8,n10,n14⟩:=hno
 have HA:=aa (fw M.op _ (ha.below HB.out))
 obtain ⟨op,hopp⟩ : ∃ op,op = M.op:=⟨_,rfl⟩
 rw [<- hopp] at c1 HA n0 n3 n6 n12 n16 n23 n2 n4 n8 n10 n14
 have HOP:=aa hopp
 have b0 : (op == 0) = false:=by simp [n0]
 have b3 : (op == 3) = false:=by simp [n3]
 have b6 : (op == 6) = false:=by simp [n6]
 have b12 : (op == 12) = false:=by simp [n12]
 have b16 : (op == 16) = false:=by simp [n16]
 have b23 : (op == 23) = false:=by simp [n23]
 have b2 : (op == 2) = false:=by simp [n2]
 have b4 : (op == 4) = false:=by simp [n4]
 have b8 : (op == 8) = false:=by simp [n8]
 have b10 : (op == 10) = false:=by simp [n10]
 have b14 : (op == 14) = false:=by simp [n14]
 clear ha hopp n0 n3 n6 n12 n16 n23 n2 n4 n8 n10 n14
 clear hp hcs hop hfit hfl hat hli hmo hde hco
 go_enter Tryz.func31,Tryz.ntmps31
 go_wp2_with fail
 (go_at_call 63)
 refine HA.out.mono ?_
 cases hq : aD op with
 | false =>
  rintro e w1 ⟨rfl,hb1⟩
  have HB1:=aa (HB.out.trans (hb1.mono HB.out.size))
  have HQ:=aa hq
  clear hb1 hq
  go_wp2_with fail
  go_ret
  exact ah (by rw [HP.out,<- HOP.out,HQ.out]; simp) HB1.out
 | true =>
  rintro e w1 ⟨rfl,hb1⟩
  have HB1:=aa (HB.out.trans (hb1.mono HB.out.size))
  have HQ:=aa hq
  have hbx:=af (Bk.new w 30 cs) hb1
  have e9 : w1.cell? ⟨w.heap.size,9,none⟩ = some (.int .i64 M.code):=(hbx.cell 9).trans c9
  clear hb1 hq hbx
  go_wp2_with fail
  (go_at_call 30)
  refine (bh M.code 0 127 _).mono ?_
  cases ha : inB M.code 0 127 with
  | false =>
   rintro e w1 ⟨rfl,rfl⟩
   have Ha:=aa ha
   clear ha
   go_wp2_with fail
   go_ret
   exact ah (by rw [HP.out,<- HOP.out,HQ.out,Ha.out]; simp) HB1.out
  | true =>
   rintro e w1 ⟨rfl,rfl⟩
   have Ha:=aa ha
   clear ha
   go_wp2_with fail
   go_ret
   exact ah (by rw [HP.out,<- HOP.out,HQ.out,Ha.out]; simp) HB1.out
theorem fo {α : Type} (p : α -> Bool) (l : List α) (k : Nat) (h : k < l.length) : (l.drop k).all p = (p l[k] && (l.drop (k + 1)).all p):=by
 rw [List.drop_eq_getElem_cons h,List.all_cons]
theorem rng_modify (M : Ms) (m : MC) (S : Nat -> Prop) (w : World) (h : MsAt w S M m) (hop : M.op = 6) :
  Calls Tryz.prog 31 #[.agg m.cells] w (aq (M.mods.all fun x => inB x.1 0 2) w):=by
 obtain ⟨p,hp⟩ : ∃ p,p = (M.mods.all fun x => inB x.1 0 2):=⟨_,rfl⟩
 rw [<- hp]
 have HP:=aa hp
 obtain ⟨f,at',li,⟨mA,mn,mc⟩,de,co,rfl,hfit,hfl,hat,hli,⟨hm1,hm2,hm3,hm4⟩,hde,hco⟩:=h
 simp only at hm1 hm2 hm3 hm4
 subst hm1
 obtain ⟨cs,hcs⟩ : ∃ cs,cs = (M.mc f at' li ⟨mA,M.mods.length,mc⟩ de co).cells:=⟨_,rfl⟩
 have c1 : cs[1]? = some (.int .i64 6):=by rw [hcs,<- hop]; rfl
 have c25 : cs[25]? = some (.slice mA M.mods.length mc):=by rw [hcs]; rfl
 rw [<- hcs]
 have hB:=(Below.refl w.heap.size w).alloc (Nat.le_refl _) (.cells cs 30)
 have HB:=aa hB
 have HM4:=aa hm4
 have hmm : mc <= 9223372036854775807:=by unfold maxLen at hm3; omega
 obtain ⟨ms,hms⟩ : ∃ ms,ms = M.mods:=⟨_,rfl⟩
 rw [<- hms] at c25 HM4 HP hm2
 clear hp hcs hop hfit hfl hat hli hm3 hm4 hde hco hB hms
 go_enter Tryz.func31,Tryz.ntmps31
 go_wp2_with fail
 go_loopw [56] (fun i wr => ∃ j : Nat,i = .int .i64 j /\ j <= ms.length /\ Hid (p = (ms.drop j).all fun x => inB x.1 0 2) /\ Below w.heap.size w wr) (fun i _ => ms.length - (intOf i).toNat)
 case atStart => exact ⟨0,rfl,Nat.zero_le _,HP.out,HB.out⟩
 case round =>
  obtain ⟨j,rfl,hj,HT,hbw⟩:=hrel
  have HBW:=aa hbw
  by_cases hlt : j < ms.length
  ·obtain ⟨b,o,c,rfl,hS,hc1,hcl,hfk⟩:=HM4.out j ms[j] (List.getElem?_eq_getElem hlt)
   obtain ⟨q,rfl,-,-⟩:=hfk
   have hbl : b < w.heap.size:=hS.2
   have hcw : ∀ o',wr.cell? ⟨b,o',none⟩ = w.cell? ⟨b,o',none⟩:=fun o' => hbw.cell (p:=⟨b,o',none⟩) hbl
   have HAD:=aa (fo (fun x : Md => inB x.1 0 2) ms j hlt)
   obtain ⟨n,hn⟩ : ∃ n,n = ms[j].1:=⟨_,rfl⟩
   have q0 : wr.cell? ⟨b,o + j * 3,none⟩ = some (.int .i64 n):=by rw [hn]; exact (hcw _).trans (hcl 0 _ rfl)
   have q1 : wr.cell? ⟨b,o + j * 3 + 1,none⟩ = some (.string ms[j].2.1):=(hcw _).trans (hcl 1 _ rfl)
   have q2 : wr.cell? ⟨b,o + j * 3 + 2,none⟩ = some (.slice q.A q.n q.c):=(hcw _).trans (hcl 2 _ rfl)
   obtain ⟨s,hs⟩ : ∃ s,s = ms[j].2.1:=⟨_,rfl⟩
   rw [<- hs] at q1
   simp only [<- hn] at HAD
   have z4 : decide (j < ms.length) = true:=ab hlt
   have hbr : b < wr.heap.size:=Nat.lt_of_lt_of_le hbl hbw.size
   have HBA:=aa (hbw.trans (((Below.refl wr.heap.size wr).alloc (Nat.le_refl _) (.cells #[.int .i64 n,.string s,.slice q.A q.n q.c] 52)).mono hbw.size))
   clear hn hs hS hc1 hcl hcw hbw
   go_wp2_with fail
   (go_at_call 30)
   refine (bh n 0 2 _).mono ?_
   cases hin : inB n 0 2 with
   | false =>
    rintro e w1 ⟨rfl,rfl⟩
    have HI:=aa hin
    clear hin
    go_wp2_with fail
    go_ret
    exact ah (by rw [HT.out,HAD.out,HI.out]; rfl) HBA.out
   | true =>
    rintro e w1 ⟨rfl,rfl⟩
    have HI:=aa hin
    clear hin
    go_wp2_with fail
    go_roundw
    case rel => exact ⟨j + 1,by go_num,by omega,show _ = _ by rw [HT.out,HAD.out,HI.out]; rfl,HBA.out⟩
    case measure => simp [intOf]; omega
  ·obtain rfl : j = ms.length:=by omega
   have z4 : decide (ms.length < ms.length) = false:=by simp
   clear hbw
   go_wp2_with fail
   go_ret
   exact ah (by rw [HT.out,List.drop_length]; rfl) HBW.out
def Ms.ranged (M : Ms) : Bool :=
 if M.op = 0 then inB M.version 1 127 && (M.has || (!M.sasl || !aj M.value))
 else if M.op = 3 then inB M.scope 0 2 && (inB M.deref 0 3 && (inB M.size 0 2147483647 && (inB M.time 0 2147483647 && M.filter.right)))
 else if M.op = 6 then M.mods.all fun x => inB x.1 0 2
 else if M.op = 12 then decide (M.dest.length <= 1)
 else if M.op = 16 then inB M.other 0 2147483647
 else if M.op = 23 then M.has || !aj M.value
 else if M.op = 2 \/ M.op = 4 \/ M.op = 8 \/ M.op = 10 \/ M.op = 14 then true
 else aD M.op && inB M.code 0 127
theorem ranged_any (M : Ms) (m : MC) (S : Nat -> Prop) (w : World) (h : MsAt w S M m) (ha : AnsAt w) : Calls Tryz.prog 31 #[.agg m.cells] w (aq M.ranged w):=by
 unfold Ms.ranged
 by_cases h0 : M.op = 0
 ·rw [if_pos h0]; exact rng_bind M m S w h h0
 rw [if_neg h0]
 by_cases h3 : M.op = 3
 ·rw [if_pos h3]; exact rng_search M m S w h h3
 rw [if_neg h3]
 by_cases h6 : M.op = 6
 ·rw [if_pos h6]; exact rng_modify M m S w h h6
 rw [if_neg h6]
 by_cases h12 : M.op = 12
 ·rw [if_pos h12]; exact rng_rename M m S w h h12
 rw [if_neg h12]
 by_cases h16 : M.op = 16
 ·rw [if_pos h16]; exact rng_abandon M m S w h h16
 rw [if_neg h16]
 by_cases h23 : M.op = 23
 ·rw [if_pos h23]; exact rng_ext M m S w h h23
 rw [if_neg h23]
 by_cases h2 : M.op = 2
 ·rw [if_pos (by omega)]; exact rng_free2 M m S w h h2
 by_cases h4 : M.op = 4
 ·rw [if_pos (by omega)]; exact rng_free4 M m S w h h4
 by_cases h8 : M.op = 8
 ·rw [if_pos (by omega)]; exact rng_free8 M m S w h h8
 by_cases h10 : M.op = 10
 ·rw [if_pos (by omega)]; exact rng_free10 M m S w h h10
 by_cases h14 : M.op = 14
 ·rw [if_pos (by omega)]; exact rng_free14 M m S w h h14
 rw [if_neg (by omega)]
 exact rng_answer M m S w h rfl ha ⟨h0,h3,h6,h12,h16,h23,h2,h4,h8,h10,h14⟩
def Rw.bare (r : Rw) : Rw:=⟨Option.none,r.n,0⟩
def MC.erase (m : MC) : MC :=
 { m with filter:={ m.filter with any:=m.filter.any.bare,kids:=m.filter.kids.bare },attrs:=m.attrs.bare,list:=m.list.bare,mods:=m.mods.bare,dest:=m.dest.bare,controls:=m.controls.bare }
theorem MC.erase_bare (m : MC) : m.erase.bare = m.bare.erase:=by
 unfold MC.bare
 by_cases h0 : m.op = 0
 ·rw [if_pos (show m.erase.op = 0 from h0),if_pos h0]
  by_cases hs : m.sasl = true
  ·rw [if_pos (show m.erase.sasl = true from hs),if_pos hs]; rfl
  ·rw [if_neg (show ¬ (m.erase.sasl = true) from hs),if_neg hs]; rfl
 rw [if_neg (show ¬ (m.erase.op = 0) from h0),if_neg h0]
 by_cases h1 : m.op = 3
 ·rw [if_pos (show m.erase.op = 3 from h1),if_pos h1]; rfl
 rw [if_neg (show ¬ (m.erase.op = 3) from h1),if_neg h1]
 by_cases h2 : m.op = 4 \/ m.op = 8
 ·rw [if_pos (show m.erase.op = 4 \/ m.erase.op = 8 from h2),if_pos h2]; rfl
 rw [if_neg (show ¬ (m.erase.op = 4 \/ m.erase.op = 8) from h2),if_neg h2]
 by_cases h3 : m.op = 6
 ·rw [if_pos (show m.erase.op = 6 from h3),if_pos h3]; rfl
 rw [if_neg (show ¬ (m.erase.op = 6) from h3),if_neg h3]
 by_cases h4 : m.op = 10
 ·rw [if_pos (show m.erase.op = 10 from h4),if_pos h4]; rfl
 rw [if_neg (show ¬ (m.erase.op = 10) from h4),if_neg h4]
 by_cases h5 : m.op = 12
 ·rw [if_pos (show m.erase.op = 12 from h5),if_pos h5]; rfl
 rw [if_neg (show ¬ (m.erase.op = 12) from h5),if_neg h5]
 by_cases h6 : m.op = 14
 ·rw [if_pos (show m.erase.op = 14 from h6),if_pos h6]; rfl
 rw [if_neg (show ¬ (m.erase.op = 14) from h6),if_neg h6]
 by_cases h7 : m.op = 16
 ·rw [if_pos (show m.erase.op = 16 from h7),if_pos h7]; rfl
 rw [if_neg (show ¬ (m.erase.op = 16) from h7),if_neg h7]
 by_cases h8 : m.op = 23
 ·rw [if_pos (show m.erase.op = 23 from h8),if_pos h8]; rfl
 rw [if_neg (show ¬ (m.erase.op = 23) from h8),if_neg h8]
 by_cases h9 : m.op = 2
 ·rw [if_pos (show m.erase.op = 2 from h9),if_pos h9]; rfl
 rw [if_neg (show ¬ (m.erase.op = 2) from h9),if_neg h9]
 by_cases h10 : m.op = 24
 ·rw [if_pos (show m.erase.op = 24 from h10),if_pos h10]; rfl
 rw [if_neg (show ¬ (m.erase.op = 24) from h10),if_neg h10]
 rfl
theorem MC.empty_erase (m : MC) : m.erase.empty = m.empty:=rfl
theorem MC.erase_empty (m : MC) : m.erase.bare.empty = m.bare.empty:=by rw [MC.erase_bare,MC.empty_erase]
def rw (n : Nat) : Rw:=⟨Option.none,n,0⟩
def Fl.lens : Fl -> FC
 | .mk k a v f any l kids => ⟨k,a,v,f,rw any.length,l,rw kids.length⟩
def Ms.lens (M : Ms) : MC:=M.mc M.filter.lens (rw M.attrs.length) (rw M.list.length) (rw M.mods.length) (rw M.dest.length) (rw M.controls.length)
theorem MsAt.lens {w : World} {S : Nat -> Prop} {M : Ms} {m : MC} (h : MsAt w S M m) : m.erase = M.lens:=by
 obtain ⟨f,at',li,mo,de,co,rfl,hfit,hfl,hat,hli,hmo,hde,hco⟩:=h
 have hf : ({ f with any:=f.any.bare,kids:=f.kids.bare } : FC) = M.filter.lens:=by
  obtain ⟨F,hF⟩ : ∃ F,F = M.filter:=⟨_,rfl⟩
  rw [<- hF] at hfl |-
  obtain ⟨k,a,v,g,any,l,kids⟩:=F
  unfold FlAt at hfl
  obtain ⟨q,r,hc,-,hq,hr,-⟩:=hfl
  simp only [List.cons.injEq,Value.int.injEq,Value.string.injEq,Value.slice.injEq,and_true,true_and] at hc
  obtain ⟨h1,h2,h3,h4,⟨h5,h6,h7⟩,h8,h9,h10,h11⟩:=hc
  simp only [Fl.lens,rw,Rw.bare,h1,h2,h3,h4,h6,h8,h10,hq.1,hr.1]
 unfold MC.erase Ms.lens Ms.mc
 rw [<- hf]
 simp only [Rw.bare,rw,hat.1,hli.1,hmo.1,hde.1,hco.1]
theorem MsAt.empty {w : World} {S : Nat -> Prop} {M : Ms} {m : MC} (h : MsAt w S M m) : m.bare.empty = M.lens.bare.empty:=by rw [<- h.lens,MC.erase_empty]
theorem bq {P : Program} {ops : Array Oper} {rest : List Oper} {o : Oper} {a : Act} {w : World} {Q : Exit -> Act -> World -> Prop} (hw : Region.wanted o (yielded ops a.tmps) = true) (ty : TypeId) (x : Operand) (ho : o.op = .load ty x)
  (g : Nat) (hx : a.eval x = .pointer (some ⟨g,0,none⟩)) (t : TypeId) (cs : Array Value) (fr : Nat × Nat) (d : TypeDesc) (hg : w.heap[g]? = some (.cells cs t fr))
  (hu : P.underlying ty = some d) (hd : (match d with | .struct _ | .array _ _ => true | _ => false) = true) (hi : (P.info? ty).map (·.size) = some cs.size)
  (h : wpList P ops Q rest (a.put o.dst (.agg cs)) w) : wpList P ops Q (o :: rest) a w :=
 wpList_step fun K hK => by
  rw [if_pos hw]
  exact wp_load_row ty x ho g hx t cs fr d hg hu hd hi (hK _ _ h)
def Ms.ctlsOk (M : Ms) : Bool:=M.controls.all fun c => c.2.2.1 || !aj c.2.2.2
def Ms.right (M : Ms) : Bool:=M.ctlsOk && (inB M.id 0 2147483647 && (M.ranged && M.lens.bare.empty))
theorem ca (M : Ms) (m : MC) (S : Nat -> Prop) (w : World) (h : MsAt w S M m) (ha : AnsAt w) : Calls Tryz.prog 9 #[.agg m.cells] w (aq M.right w):=by
 have HS:=aa aT
 obtain ⟨p,hp⟩ : ∃ p,p = M.right:=⟨_,rfl⟩
 rw [<- hp]
 have HP:=aa hp
 have HM:=aa h
 have HEM:=aa h.empty
 obtain ⟨f,at',li,mo,de,⟨oA,on,oc⟩,hm,hfit,hfl,hat,hli,hmo,hde,⟨hm1,hm2,hm3,hm4⟩⟩:=h
 simp only at hm1 hm2 hm3 hm4
 subst hm1
 obtain ⟨cs,hcs⟩ : ∃ cs,cs = m.cells:=⟨_,rfl⟩
 have c0 : cs[0]? = some (.int .i64 M.id):=by rw [hcs,hm]; rfl
 have c30 : cs[30]? = some (.slice oA M.controls.length oc):=by rw [hcs,hm]; rfl
 rw [<- hcs]
 have HCS:=aa hcs
 have hB:=(Below.refl w.heap.size w).alloc (Nat.le_refl _) (.cells cs 30)
 have HB:=aa hB
 have HM4:=aa hm4
 have HA:=aa ha
 have hmm : oc <= 9223372036854775807:=by unfold maxLen at hm3; omega
 have hbk:=Bk.new w 30 cs
 have HBK:=aa hbk
 have hlw:=hbk.lt
 have hlw' : w.heap.size < (w.alloc (.cells cs 30)).heap.size:=hlw
 have HCO:=aa (show M.ctlsOk = (M.controls.drop 0).all (fun c => c.2.2.1 || !aj c.2.2.2) from rfl)
 obtain ⟨os,hos⟩ : ∃ os,os = M.controls:=⟨_,rfl⟩
 rw [<- hos] at c30 HM4 HCO hm2
 clear hp hcs hm hfit hfl hat hli hmo hm3 hm4 hde hB hbk hlw hlw' hos ha
 go_enter Tryz.func9,Tryz.ntmps9
 go_wp2_with fail
 go_loopw [8] (fun i wr => ∃ j : Nat,i = .int .i64 j /\ j <= os.length /\ Hid (M.ctlsOk = (os.drop j).all fun c => c.2.2.1 || !aj c.2.2.2) /\ Below w.heap.size w wr /\ Bk wr w.heap.size 30 cs) (fun i _ => os.length - (intOf i).toNat)
 case atStart => exact ⟨0,rfl,Nat.zero_le _,HCO.out,HB.out,HBK.out⟩
 case round =>
  obtain ⟨j,rfl,hj,HT,hbw,hbk⟩:=hrel
  have HBW:=aa hbw
  have HBK2:=aa hbk
  by_cases hlt : j < os.length
  ·obtain ⟨b,o,c,rfl,hS,hc1,hcl,hfk⟩:=HM4.out j os[j] (List.getElem?_eq_getElem hlt)
   obtain ⟨rfl,-,-⟩:=hfk
   have hbl : b < w.heap.size:=hS.2
   have hcw : ∀ o',wr.cell? ⟨b,o',none⟩ = w.cell? ⟨b,o',none⟩:=fun o' => hbw.cell (p:=⟨b,o',none⟩) hbl
   have HAD:=aa (fo (fun c : Co => c.2.2.1 || !aj c.2.2.2) os j hlt)
   obtain ⟨c0',c1',c2',c3',hc⟩ : ∃ a b c d,os[j] = (a,b,c,d):=⟨_,_,_,_,rfl⟩
   rw [hc] at hcl
   simp only [hc] at HAD
   have q0 : wr.cell? ⟨b,o + j * 4,none⟩ = some (.string c0'):=(hcw _).trans (hcl 0 _ rfl)
   have q1 : wr.cell? ⟨b,o + j * 4 + 1,none⟩ = some (.bool c1'):=(hcw _).trans (hcl 1 _ rfl)
   have q2 : wr.cell? ⟨b,o + j * 4 + 2,none⟩ = some (.bool c2'):=(hcw _).trans (hcl 2 _ rfl)
   have q3 : wr.cell? ⟨b,o + j * 4 + 3,none⟩ = some (.string c3'):=(hcw _).trans (hcl 3 _ rfl)
   have z4 : decide (j < os.length) = true:=ab hlt
   have hbr : b < wr.heap.size:=Nat.lt_of_lt_of_le hbl hbw.size
   have HBA:=aa (hbw.trans (((Below.refl wr.heap.size wr).alloc (Nat.le_refl _) (.cells #[.string c0',.bool c1',.bool c2',.string c3'] 54)).mono hbw.size))
   have HBKA:=aa (hbk.alloc (.cells #[.string c0',.bool c1',.bool c2',.string c3'] 54))
   clear hc hS hc1 hcl hcw hbw hbk
   cases c2' with
   | true =>
    go_wp2_with fail
    go_roundw
    case rel => exact ⟨j + 1,by go_num,by omega,show _ = _ by rw [HT.out,HAD.out]; rfl,HBA.out,HBKA.out⟩
    case measure => simp [intOf]; omega
   | false =>
    cases hv : aj c3' with
    | false =>
     have v1:=(aE hv).1
     have v2:=(aE hv).2
     have v3 : (!c3'.toList.isEmpty) = false:=hv
     have HV:=aa hv
     clear hv
     go_wp2_with fail
     go_roundw
     case rel => exact ⟨j + 1,by go_num,by omega,show _ = _ by rw [HT.out,HAD.out,HV.out]; rfl,HBA.out,HBKA.out⟩
     case measure => simp [intOf]; omega
    | true =>
     have v1:=aU hv
     have v3 : (!c3'.toList.isEmpty) = true:=hv
     have HV:=aa (show M.ctlsOk = false by rw [HT.out,HAD.out,hv]; rfl)
     clear hv
     go_wp2_with fail
     go_ret
     exact ah (by rw [HP.out,Ms.right,HV.out]; rfl) HBA.out
  ·obtain rfl : j = os.length:=by omega
   have z4 : decide (os.length < os.length) = false:=by simp
   have HOK:=aa (show M.ctlsOk = true by rw [HT.out,List.drop_length]; rfl)
   have e0 : wr.cell? ⟨w.heap.size,0,none⟩ = some (.int .i64 M.id):=(hbk.cell 0).trans c0
   have HMW:=aa (show MsAt wr S M m from HM.out.keep hbw.size (fun x _ hlt => hbw.block x hlt) (fun _ h _ => h))
   have HAW:=aa (HA.out.below hbw)
   have HWI:=aa (bh M.id 0 2147483647 wr)
   clear hbw hbk
   go_wp2_with fail
   (go_at_call 30)
   refine HWI.out.mono ?_
   cases hin : inB M.id 0 2147483647 with
   | false =>
    rintro e w1 ⟨rfl,rfl⟩
    have HI:=aa hin
    clear hin
    go_wp2_with fail
    go_ret
    exact ah (by rw [HP.out,Ms.right,HOK.out,HI.out]; rfl) HBW.out
   | true =>
    rintro e w1 ⟨rfl,rfl⟩
    have HI:=aa hin
    clear hin
    have HRG:=aa (show Calls Tryz.prog 31 #[.agg cs] wr (aq M.ranged wr) by rw [HCS.out]; exact ranged_any M m S wr HMW.out HAW.out)
    go_wp2_with (first
     | (refine bq (by rfl) 30 (.tmp 1) rfl w.heap.size rfl 30 cs (0,0) _ HBK2.out Tryz.underlying30 rfl (by rw [HCS.out]; exact HS.out) ?_)
     | fail)
    (go_at_call 31)
    refine HRG.out.mono ?_
    obtain ⟨q,hq⟩ : ∃ q,q = M.ranged:=⟨_,rfl⟩
    rw [<- hq]
    have HQ:=aa hq
    clear hq
    rintro e w2 ⟨rfl,hb2⟩
    have hbk2:=af HBK2.out hb2
    have HBK3:=aa hbk2
    have HB2:=aa (HBW.out.trans (hb2.mono HBW.out.size))
    clear hb2 hbk2 HRG
    cases q with
    | false =>
     go_wp2_with fail
     go_ret
     exact ah (by rw [HP.out,Ms.right,HOK.out,HI.out,<- HQ.out]; rfl) HB2.out
    | true =>
     have HBR:=aa (show Calls Tryz.prog 33 #[.agg cs] w2 (dZ m.bare w2) by rw [HCS.out]; exact bare_any m w2)
     go_wp2_with (first
      | (refine bq (by rfl) 30 (.tmp 1) rfl w.heap.size rfl 30 cs (0,0) _ HBK3.out Tryz.underlying30 rfl (by rw [HCS.out]; exact HS.out) ?_)
      | fail)
     (go_at_call 33)
     refine HBR.out.mono ?_
     obtain ⟨zs,hzs⟩ : ∃ zs,zs = m.bare.cells:=⟨_,rfl⟩
     unfold dZ
     rw [<- hzs]
     have HZS:=aa hzs
     clear hzs
     rintro e w3 ⟨rfl,hb3⟩
     have HB3:=aa (HB2.out.trans (hb3.mono HB2.out.size))
     have HE:=aa (show Calls Tryz.prog 32 #[.agg zs] w3 (aq M.lens.bare.empty w3) by rw [HZS.out,<- HEM.out]; exact empty_any m.bare w3)
     clear hb3 HBR
     go_wp2_with fail
     (go_at_call 32)
     refine HE.out.mono ?_
     obtain ⟨q,hq⟩ : ∃ q,q = M.lens.bare.empty:=⟨_,rfl⟩
     rw [<- hq]
     have HQ2:=aa hq
     clear hq
     rintro e w4 ⟨rfl,hb4⟩
     have HB4:=aa (HB3.out.trans (hb4.mono HB3.out.size))
     clear hb4 HE
     go_wp2_with fail
     go_ret
     exact ah (by rw [HP.out,Ms.right,HOK.out,HI.out,<- HQ.out,<- HQ2.out]; simp) HB4.out
end Go.Proofs.YtbiglfpikfjbpaaGreatDoor
