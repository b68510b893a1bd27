import Derived.Test.YtbiglfpikfjbpaaGreatDoorM28
namespace Go.Proofs.YtbiglfpikfjbpaaGreatDoor
open Go.RowKit
open Go.PlainAid
set_option maxRecDepth 100000
set_option linter.unusedVariables false
set_option linter.unusedSimpArgs false
set_option maxHeartbeats 40000000
def fh (x c : Int) (w : World) (e : Ending) (w' : World) : Prop:=Below w.heap.size w w' /\ ∃ m : Int,e = .returned (.tuple #[.int .i64 m,.bool (decide (0 <= c))]) /\ (0 <= c -> m = 40 - c)
theorem rcount_no (f : Fl) (c : List Value) (S : Nat -> Prop) (d x : Int) (w : World) (h : FlAt w S f c) (hd : 0 <= d /\ d <= 9) (hx : 0 <= x /\ x <= 40) (hn : x - 1 < 0 \/ 8 < d \/ f.one = false) :
  Calls Tryz.prog 64 #[.agg c.toArray,.int .i64 d,.int .i64 (40 - x)] w (fh x (-1) w):=by
 obtain ⟨y0,y1,y2,y3,y5,yA,yn,yc,zA,zn,zc,rfl⟩:=aY h
 have hb:=(Below.refl w.heap.size w).alloc (Nat.le_refl _) (.cells #[.int .i64 y0,.string y1,.string y2,.string y3,.slice yA yn yc,.string y5,.slice zA zn zc] 25)
 have HB:=aa hb
 obtain ⟨hd1,hd2⟩:=hd
 obtain ⟨n,hnx⟩ : ∃ n : Int,n = 40 - x:=⟨_,rfl⟩
 rw [<- hnx]
 have hn1 : 0 <= n:=by omega
 have hn2 : n <= 40:=by omega
 by_cases hx0 : x - 1 < 0
 ·have z1 : decide (40 < n + 1) = true:=ab (by omega)
  have z2 : decide (40 <= n) = true:=ab (by omega)
  clear hn h hb hx0 hx hnx
  go_enter Tryz.func64,Tryz.ntmps64
  go_wp2_with fail
  refine bodyPost_ret (v:=.tuple #[.int .i64 (n + 1),.bool false]) (by simp [results,Tryz.results64,go_sem]) rfl ?_
  exact ⟨HB.out,_,rfl,fun h => absurd h (by decide)⟩
 have z1 : decide (40 < n + 1) = false:=ae (by omega)
 have z2 : decide (40 <= n) = false:=ae (by omega)
 by_cases hd0 : 8 < d
 ·have z3 : decide (8 < d) = true:=ab hd0
  clear hn h hb hx0 hx hnx
  go_enter Tryz.func64,Tryz.ntmps64
  go_wp2_with fail
  refine bodyPost_ret (v:=.tuple #[.int .i64 (n + 1),.bool false]) (by simp [results,Tryz.results64,go_sem]) rfl ?_
  exact ⟨HB.out,_,rfl,fun h => absurd h (by decide)⟩
 have z3 : decide (8 < d) = false:=ae hd0
 have ho : f.one = false:=by rcases hn with h | h | h; exact absurd h hx0; exact absurd h hd0; exact h
 have HO:=aa (show Calls Tryz.prog 91 #[.agg #[.int .i64 y0,.string y1,.string y2,.string y3,.slice yA yn yc,.string y5,.slice zA zn zc]] _ (aq false _) by
  have:=rone_any f _ S _ (FlAt.keep (T:=S) hb.size (fun x _ hlt => hb.block x hlt) (fun _ h _ => h) _ _ h); rwa [ho] at this)
 clear hn h hb ho hx0 hx hnx
 go_enter Tryz.func64,Tryz.ntmps64
 go_wp2_with fail
 (go_at_call 91)
 refine HO.out.mono ?_
 rintro e w1 ⟨rfl,hb1⟩
 have HB1:=aa (HB.out.trans (hb1.mono HB.out.size))
 clear hb1
 go_wp2_with fail
 refine bodyPost_ret (v:=.tuple #[.int .i64 (n + 1),.bool false]) (by simp [results,Tryz.results64,go_sem]) rfl ?_
 exact ⟨HB1.out,_,rfl,fun h => absurd h (by decide)⟩
theorem rcount_yes (k : Int) (a v f : ByteArray) (any : List ByteArray) (l : ByteArray) (kids : List Fl) (c : List Value) (S : Nat -> Prop) (d x : Int) (w : World) (h : FlAt w S (.mk k a v f any l kids) c) (hd : 0 <= d /\ d <= 8) (hx : 1 <= x /\ x <= 40) (hone : Fl.one (.mk k a v f any l kids) = true)
  (ih : ∀ y ∈ kids,∀ (c : List Value) (S : Nat -> Prop) (d x : Int) (w : World),FlAt w S y c -> 0 <= d /\ d <= 9 -> 0 <= x /\ x <= 40 -> Calls Tryz.prog 64 #[.agg c.toArray,.int .i64 d,.int .i64 (40 - x)] w (fh x (y.cnt d x) w)) :
  Calls Tryz.prog 64 #[.agg c.toArray,.int .i64 d,.int .i64 (40 - x)] w (fh x (Fl.cnts kids (d + 1) (x - 1)) w):=by
 have hfl:=h
 unfold FlAt at h
 obtain ⟨⟨qA,qn,qc⟩,⟨rA,rn,rc⟩,rfl,hz,hq,⟨hr1,hr2,hr3⟩,hks⟩:=h
 simp only at hr1 hr2 hr3 hks hfl |-
 subst hr1
 have hb:=(Below.refl w.heap.size w).alloc (Nat.le_refl _) (.cells #[.int .i64 k,.string a,.string v,.string f,.slice qA qn qc,.string l,.slice rA kids.length rc] 25)
 have HB:=aa hb
 have HBX:=aa (Bk.new w 25 #[.int .i64 k,.string a,.string v,.string f,.slice qA qn qc,.string l,.slice rA kids.length rc])
 obtain ⟨hd1,hd2⟩:=hd
 obtain ⟨n,hnx⟩ : ∃ n : Int,n = 40 - x:=⟨_,rfl⟩
 rw [<- hnx]
 have HNX:=aa (show 40 - (n + 1) = x - 1 by omega)
 have hn1 : 0 <= n:=by omega
 have hn2 : n <= 39:=by omega
 have z1 : decide (40 < n + 1) = false:=ae (by omega)
 have z2 : decide (40 <= n) = false:=ae (by omega)
 have z3 : decide (8 < d) = false:=ae (by omega)
 have hrm : rc <= 9223372036854775807:=by unfold maxLen at hr3; omega
 have HO:=aa (show Calls Tryz.prog 91 #[.agg #[.int .i64 k,.string a,.string v,.string f,.slice qA qn qc,.string l,.slice rA kids.length rc]] _ (aq true _) by
  have:=rone_any _ _ S _ (FlAt.keep (T:=S) hb.size (fun x _ hlt => hb.block x hlt) (fun _ h _ => h) _ _ hfl); rwa [hone] at this)
 have HK:=aa hks
 have IH:=aa ih
 clear hfl hb hone hz hq hr3 hks ih hx hnx
 go_enter Tryz.func64,Tryz.ntmps64
 go_wp2_with fail
 (go_at_call 91)
 refine HO.out.mono ?_
 rintro e w1 ⟨rfl,hb1⟩
 have hbx:=af HBX.out hb1
 have e6 : w1.cell? ⟨w.heap.size,6,none⟩ = some (.slice rA kids.length rc):=hbx.cell 6
 have HB1:=aa (HB.out.trans (hb1.mono HB.out.size))
 have hs1 : w.heap.size < w1.heap.size:=hbx.lt
 have HK1:=aa hbx
 clear hb1 hbx HO
 go_wp2_with fail
 go_loopw [2,8] (fun lf i wr => ∃ (j : Nat) (y : Int),i = .int .i64 j /\ lf = .int .i64 (40 - y) /\ j <= kids.length /\ 0 <= y /\ y <= 40 /\ Hid (Fl.cnts kids (d + 1) (x - 1) = Fl.cnts (kids.drop j) (d + 1) y) /\ Below w.heap.size w wr /\ Bk wr w.heap.size 25 #[.int .i64 k,.string a,.string v,.string f,.slice qA qn qc,.string l,.slice rA kids.length rc]) (fun _ i _ => kids.length - (intOf i).toNat)
 case atStart => exact ⟨0,40 - (n + 1),rfl,by go_num,Nat.zero_le _,by omega,by omega,by unfold Hid; rw [HNX.out]; rfl,HB1.out,HK1.out⟩
 case round =>
  obtain ⟨j,y,rfl,rfl,hj,hy1,hy2,HT,hbw,hbk⟩:=hrel
  have HBW:=aa hbw
  have HBK:=aa hbk
  have p6 : wr.cell? ⟨w.heap.size,6,none⟩ = some (.slice rA kids.length rc):=hbk.cell 6
  have l6:=hbk.lt
  by_cases hlt : j < kids.length
  ·obtain ⟨b,o,c,rfl,hS,hc1,hcl,hfk⟩:=HK.out.get j kids[j] (List.getElem?_eq_getElem hlt)
   rw [Nat.zero_add] at hcl
   obtain ⟨y0,y1,y2,y3,y5,yA,yn,yc,zA,zn,zc,rfl⟩:=aY hfk
   have hbl : b < w.heap.size:=hS.2
   have hcw : ∀ o',wr.cell? ⟨b,o',none⟩ = w.cell? ⟨b,o',none⟩:=fun o' => hbw.cell (p:=⟨b,o',none⟩) hbl
   have q0 : wr.cell? ⟨b,o + j * 7,none⟩ = some (.int .i64 y0):=(hcw _).trans (hcl 0 _ rfl)
   have q1 : wr.cell? ⟨b,o + j * 7 + 1,none⟩ = some (.string y1):=(hcw _).trans (hcl 1 _ rfl)
   have q2 : wr.cell? ⟨b,o + j * 7 + 2,none⟩ = some (.string y2):=(hcw _).trans (hcl 2 _ rfl)
   have q3 : wr.cell? ⟨b,o + j * 7 + 3,none⟩ = some (.string y3):=(hcw _).trans (hcl 3 _ rfl)
   have q4 : wr.cell? ⟨b,o + j * 7 + 4,none⟩ = some (.slice yA yn yc):=(hcw _).trans (hcl 4 _ rfl)
   have q5 : wr.cell? ⟨b,o + j * 7 + 5,none⟩ = some (.string y5):=(hcw _).trans (hcl 5 _ rfl)
   have q6 : wr.cell? ⟨b,o + j * 7 + 6,none⟩ = some (.slice zA zn zc):=(hcw _).trans (hcl 6 _ rfl)
   have HC:=aa (IH.out kids[j] (List.getElem_mem hlt) _ S (d + 1) y _ (FlAt.keep (T:=S) hbw.size (fun x _ hlt => hbw.block x hlt) (fun _ h _ => h) _ _ hfk) (by omega) (by omega))
   have HDR:=aa (Fl.cnts_drop (d:=d + 1) (x:=y) hlt)
   have hle:=Fl.cnt_le kids[j] (d + 1) y (by omega)
   obtain ⟨m,hm⟩ : ∃ m,m = kids[j].cnt (d + 1) y:=⟨_,rfl⟩
   rw [<- hm] at HC HDR hle
   obtain ⟨hle1,hle2⟩:=hle
   have z4 : decide ((j : Int) < (kids.length : Int)) = true:=ab (by omega)
   have hbr : b < wr.heap.size:=Nat.lt_of_lt_of_le hbl hbw.size
   clear hm hS hc1 hcl hfk hcw hbw hbk
   by_cases hneg : 0 <= m
   ·have z5 : decide (0 <= m) = true:=ab hneg
    have HV:=aa (show Fl.cnts kids (d + 1) (x - 1) = Fl.cnts (kids.drop (j + 1)) (d + 1) m by rw [HT.out,HDR.out,if_neg (by omega)])
    go_wp2_with (first
     | (go_at_call 64; go_must (refine HC.out.mono ?_); rintro e w2 ⟨hb2,u,rfl,hu⟩; obtain rfl:=hu hneg; have HB2:=aa (HBW.out.trans (hb2.mono HBW.out.size)); have HK2:=aa (af HBK.out hb2); clear hb2 HC)
     | fail)
    go_roundw
    case rel => exact ⟨j + 1,m,by go_num,rfl,by omega,hneg,by omega,HV.out,HB2.out,HK2.out⟩
    case measure => simp [intOf]; omega
   ·have z5 : decide (0 <= m) = false:=ae hneg
    have HV:=aa (show Fl.cnts kids (d + 1) (x - 1) = -1 by rw [HT.out,HDR.out,if_pos (by omega)])
    clear hneg
    go_wp2_with (first
     | (go_at_call 64; go_must (refine HC.out.mono ?_); rintro e w2 ⟨hb2,u,rfl,hu⟩; have HB2:=aa (HBW.out.trans (hb2.mono HBW.out.size)); clear hb2 HC hu)
     | fail)
    refine bodyPost_ret (v:=.tuple #[.int .i64 (u),.bool false]) (by simp [results,Tryz.results64,go_sem]) rfl ?_
    exact ⟨HB2.out,_,by rw [HV.out]; rfl,fun h => absurd (HV.out ▸ h) (by decide)⟩
  ·obtain rfl : j = kids.length:=by omega
   have z4 : decide ((kids.length : Int) < (kids.length : Int)) = false:=by simp
   have HV:=aa (show Fl.cnts kids (d + 1) (x - 1) = y by rw [HT.out,List.drop_length]; simp [Fl.cnts])
   have HY:=aa hy1
   clear hbw hbk
   go_wp2_with fail
   refine bodyPost_ret (v:=.tuple #[.int .i64 (40 - y),.bool true]) (by simp [results,Tryz.results64,go_sem]) rfl ?_
   exact ⟨HBW.out,_,by rw [HV.out,ab HY.out],fun _ => by rw [HV.out]⟩
mutual
theorem rcount_any : ∀ (f : Fl) (c : List Value) (S : Nat -> Prop) (d x : Int) (w : World),FlAt w S f c -> 0 <= d /\ d <= 9 -> 0 <= x /\ x <= 40 -> Calls Tryz.prog 64 #[.agg c.toArray,.int .i64 d,.int .i64 (40 - x)] w (fh x (f.cnt d x) w)
 | .mk k a v f any l kids,c,S,d,x,w,h,hd,hx => by
  have ih:=rcounts_any kids
  unfold Fl.cnt
  by_cases hn : x - 1 < 0 \/ 8 < d \/ Fl.one (.mk k a v f any l kids) = false
  ·rw [if_pos hn]
   exact rcount_no _ c S d x w h hd hx hn
  ·rw [if_neg hn]
   exact rcount_yes k a v f any l kids c S d x w h (by omega) (by omega) (by cases ho : Fl.one (.mk k a v f any l kids) with | true => rfl | false => exact absurd (.inr (.inr ho)) hn) ih
theorem rcounts_any : ∀ (ks : List Fl),∀ y ∈ ks,∀ (c : List Value) (S : Nat -> Prop) (d x : Int) (w : World),FlAt w S y c -> 0 <= d /\ d <= 9 -> 0 <= x /\ x <= 40 -> Calls Tryz.prog 64 #[.agg c.toArray,.int .i64 d,.int .i64 (40 - x)] w (fh x (y.cnt d x) w)
 | [],y,h => by simp at h
 | k :: ks,y,h => fun c S d x w hf hd hx => by
  have h1:=rcount_any k
  have h2:=rcounts_any ks
  rcases List.mem_cons.1 h with rfl | h
  ·exact h1 c S d x w hf hd hx
  ·exact h2 y h c S d x w hf hd hx
end
theorem rfright_any (f : Fl) (c : List Value) (S : Nat -> Prop) (w : World) (h : FlAt w S f c) : Calls Tryz.prog 37 #[.agg c.toArray] w (aq f.right w):=by
 obtain ⟨y0,y1,y2,y3,y5,yA,yn,yc,zA,zn,zc,rfl⟩:=aY h
 have hb:=(Below.refl w.heap.size w).alloc (Nat.le_refl _) (.cells #[.int .i64 y0,.string y1,.string y2,.string y3,.slice yA yn yc,.string y5,.slice zA zn zc] 25)
 have HB:=aa hb
 have HC:=aa (rcount_any f _ S 1 40 _ (FlAt.keep (T:=S) hb.size (fun x _ hlt => hb.block x hlt) (fun _ h _ => h) _ _ h) (by omega) (by omega))
 unfold Fl.right
 obtain ⟨n,hn⟩ : ∃ n,n = f.cnt 1 40:=⟨_,rfl⟩
 rw [<- hn] at HC |-
 rw [show (40 : Int) - 40 = 0 from rfl] at HC
 clear h hb hn
 go_enter Tryz.func37,Tryz.ntmps37
 go_wp2_with fail
 (go_at_call 64)
 refine HC.out.mono ?_
 rintro e w1 ⟨hb1,u,rfl,hu⟩
 have HB1:=aa (HB.out.trans (hb1.mono HB.out.size))
 clear hb1 HC hu
 go_wp2_with fail
 go_ret
 exact ah rfl HB1.out
end Go.Proofs.YtbiglfpikfjbpaaGreatDoor
