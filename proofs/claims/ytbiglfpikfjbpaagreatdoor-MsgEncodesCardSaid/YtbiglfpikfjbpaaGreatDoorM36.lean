import Derived.Test.YtbiglfpikfjbpaaGreatDoorM33
import Derived.Test.YtbiglfpikfjbpaaGreatDoorM35
namespace Go.Proofs.YtbiglfpikfjbpaaGreatDoor
open Go.RowKit
open Go.PlainAid
set_option maxRecDepth 100000
set_option linter.unusedVariables false
set_option linter.unusedSimpArgs false
set_option maxHeartbeats 40000000
theorem rattrs_any (q : Rw) (S : Nat -> Prop) (ds : List At) (w : World) (h : RowOf 2 bQ w S q ds) (hn : ds.length <= 1000000) (hnn : ∀ d ∈ ds,d.2.length <= 1000000) (hl : (PB.encs (ds.map tat)).length < 16000000) :
  Calls Tryz.prog 59 #[.slice q.A q.n q.c] w (RefS (PB.encs (ds.map tat)) w):=by
 obtain ⟨A,n,cap⟩:=q
 obtain ⟨r1,r2,r3,r4⟩:=h
 simp only at r1 r2 r3 r4
 subst r1
 have H4:=aa r4
 have HL:=aa hl
 have HNN:=aa hnn
 have hcm : cap <= 9223372036854775807:=by unfold maxLen at r3; omega
 clear r4 r3 hl hnn
 go_enter Tryz.func59,Tryz.ntmps59
 go_wp2_with fail
 go_loopw [3,4] (fun u i wr => ∃ (j : Nat) (s : ByteArray),i = .int .i64 j /\ u = .string s /\ j <= ds.length /\ Hid (s.data.toList = PB.encs ((ds.take j).map tat)) /\ Below w.heap.size w wr) (fun _ i _ => ds.length - (intOf i).toNat)
 case atStart => exact ⟨0,⟨#[]⟩,rfl,rfl,Nat.zero_le _,by unfold Hid; simp [PB.encs],Below.refl _ _⟩
 case round =>
  obtain ⟨j,s,rfl,rfl,hj,HS,hbw⟩:=hrel
  have HBW:=aa hbw
  by_cases hlt : j < ds.length
  ·have z1 : decide ((j : Int) < (ds.length : Int)) = true:=ab (by omega)
   obtain ⟨b,o,c,rfl,hS,hcl,hc,hat9⟩:=H4.out j ds[j] (List.getElem?_eq_getElem hlt)
   have hbl : b < wr.heap.size:=Nat.lt_of_lt_of_le hS.2 hbw.size
   have hcw : ∀ o',wr.cell? ⟨b,o',none⟩ = w.cell? ⟨b,o',none⟩:=fun o' => hbw.cell (p:=⟨b,o',none⟩) hS.2
   have hx : ds[j]? = some ds[j]:=List.getElem?_eq_getElem hlt
   have hmem:=List.getElem_mem hlt
   obtain ⟨d,hd⟩ : ∃ d,d = ds[j]:=⟨_,rfl⟩
   rw [<- hd] at hat9 hx hmem
   obtain ⟨⟨qA,qn,qc⟩,rfl,hsz,hss⟩:=hat9
   have hsl:=cX hss
   obtain ⟨s1,s2,s3,s4⟩:=hss
   simp only at s1 s2 s3 hsl
   subst s1
   have q1 : wr.cell? ⟨b,o + j * 2,none⟩ = some (.string d.1):=(hcw _).trans (hc 0 _ rfl)
   have q2 : wr.cell? ⟨b,o + j * 2 + 1,none⟩ = some (.slice qA d.2.length qc):=(hcw _).trans (hc 1 _ rfl)
   have HX:=aa (cM (tl:=tat) hx)
   have hle : (PB.enc (tat d)).length <= (PB.encs (ds.map tat)).length:=cQ (List.mem_map_of_mem hmem)
   have hll:=HL.out
   have HC:=aa fun (W : World) (hb : Below wr.heap.size wr W) => rattr_any d.1 qA qc d.2 W (hsl.off (Off.of_below (hbw.trans (hb.mono hbw.size)) []) (by simp)) (HNN.out d hmem) (by show (PB.enc (tat d)).length < _; omega)
   have hsize : s.size <= 16000000:=by
    have:=cL (ds.map tat) j
    rw [<- List.map_take] at this
    rw [aV HS.out]; omega
   have HNX:=aa fun (x : ByteArray) (hx : x.data.toList = PB.enc (tat d)) => show ¬ 9223372036854775807 < s.size + x.size by rw [aV hx]; omega
   have HKS:=aa fun (W : World) (hb : Below wr.heap.size wr W) => (show W.cell? ⟨b,o + j * 2,none⟩ = some (.string d.1) /\ W.cell? ⟨b,o + j * 2 + 1,none⟩ = some (.slice qA d.2.length qc) from ⟨(hb.cell (p:=⟨b,o + j * 2,none⟩) hbl).trans q1,(hb.cell (p:=⟨b,o + j * 2 + 1,none⟩) hbl).trans q2⟩)
   have HBR:=aa (Below.refl wr.heap.size wr).drew
   clear hx hc hd hle hll hsize hS hcl hcw hsl s4 hbw hmem
   go_wp2_with fail
   go_region_held3 (fun W => W.cell? ⟨b,o + j * 2,none⟩ = some (.string d.1) /\ W.cell? ⟨b,o + j * 2 + 1,none⟩ = some (.slice qA d.2.length qc))
    (first | (with_reducible exact HKS.out _ HBR.out) | (with_reducible exact HKS.out _ (by assumption)))
    (first
     | (go_at_call 60; refine (HC.out _ HBR.out).mono ?_; rintro e w2 ⟨hb2,x,rfl,hxl⟩; have hnx:=HNX.out x hxl; have hn2:=ag HBR.out hb2; have HXL:=aa hxl)
     | fail)
   all_goals
    have HB2:=aa (HBW.out.trans (hn2.mono HBW.out.size))
    go_wp2_with fail
    go_roundw
    case rel => exact ⟨j + 1,s ++ x,by go_num,rfl,by omega,by unfold Hid; rw [aP,HS.out,HXL.out,HX.out]; rfl,HB2.out⟩
    case measure => simp [intOf]; omega
  ·have z1 : decide ((j : Int) < (ds.length : Int)) = false:=ae (by omega)
   have HF:=aa (show s.data.toList = PB.encs (ds.map tat) by rw [HS.out,List.take_of_length_le (by omega)])
   clear hbw
   go_wp2_with fail
   go_ret
   exact ⟨HBW.out,s,rfl,HF.out⟩
theorem rfil_many (k : Nat) (a v g : ByteArray) (any : List ByteArray) (l : ByteArray) (kids : List Fl) (c : List Value) (S : Nat -> Prop) (w : World) (h : FlAt w S (.mk k a v g any l kids) c) (hk : k <= 2) (hn : kids.length <= 1000000) (hl : (PB.encs (kids.map a8)).length < 16000000)
  (ih : ∀ y ∈ kids,∀ (c : List Value) (W : World),FlAt W S y c -> Calls Tryz.prog 57 #[.agg c.toArray] W (RefS (PB.enc (a8 y)) W)) :
  Calls Tryz.prog 57 #[.agg c.toArray] w (RefS (tlvB (bl 2 true k) (PB.encs (kids.map a8))) w):=by
 have IH:=aa ih
 clear ih
 unfold FlAt at h
 obtain ⟨⟨qA,qn,qc⟩,⟨rA,rn,rc⟩,rfl,-,⟨hq1,hq2,hq3,hq4⟩,⟨hr1,hr2,hr3⟩,hks⟩:=h
 simp only at hq1 hq2 hq3 hq4 hr1 hr2 hr3 hks |-
 subst hr1 hq1
 obtain ⟨wa,hwa⟩ : ∃ W,W = w.alloc (.cells #[.int .i64 k,.string a,.string v,.string g,.slice qA any.length qc,.string l,.slice rA kids.length rc] 25):=⟨_,rfl⟩
 have hba : Below w.heap.size w wa:=by rw [hwa]; exact (Below.refl w.heap.size w).alloc (Nat.le_refl _) _
 have hka : Bk wa w.heap.size 25 #[.int .i64 k,.string a,.string v,.string g,.slice qA any.length qc,.string l,.slice rA kids.length rc]:=by rw [hwa]; exact Bk.new w _ _
 have HB:=aa hba
 have HK1:=aa hka
 have HW1:=aa hwa
 have hrm : rc <= 9223372036854775807:=by unfold maxLen at hr3; omega
 have hqm : qc <= 9223372036854775807:=by unfold maxLen at hq3; omega
 have HK:=aa hks
 have HL:=aa hl
 have HT:=aa fun (s : ByteArray) (hs : s.data.toList = PB.encs (kids.map a8)) (W : World) => cE 2 true k _ s _ W rfl (by omega) (by omega) hs (by omega)
 have t1 : decide ((k : Int) <= 2) = true:=ab (by omega)
 clear hwa hba hka hq4 hks hq3 hr3 hl
 go_enter Tryz.func57,Tryz.ntmps57
 go_wp2_with fail
 rw [<- HW1.out]
 go_loopw [3,4] (fun u i wr => ∃ (j : Nat) (s : ByteArray),i = .int .i64 j /\ u = .string s /\ j <= kids.length /\ Hid (s.data.toList = PB.encs ((kids.take j).map a8)) /\ Below w.heap.size w wr /\ Bk wr w.heap.size 25 #[.int .i64 k,.string a,.string v,.string g,.slice qA any.length qc,.string l,.slice rA kids.length rc]) (fun _ i _ => kids.length - (intOf i).toNat)
 case atStart => exact ⟨0,⟨#[]⟩,rfl,rfl,Nat.zero_le _,by unfold Hid; simp [PB.encs],HB.out,HK1.out⟩
 case round =>
  obtain ⟨j,s,rfl,rfl,hj,HS,hbw,hbk⟩:=hrel
  have HBW:=aa hbw
  have HBK:=aa hbk
  have p0 : wr.cell? ⟨w.heap.size,0,none⟩ = some (.int .i64 k):=hbk.cell 0
  have p6 : wr.cell? ⟨w.heap.size,6,none⟩ = some (.slice rA kids.length rc):=hbk.cell 6
  have l1:=hbk.lt
  by_cases hlt : j < kids.length
  ·have z1 : decide ((j : Int) < (kids.length : Int)) = true:=ab (by omega)
   have hx : kids[j]? = some kids[j]:=List.getElem?_eq_getElem hlt
   obtain ⟨b,o,c,rfl,hS,hc1,hcl,hfk⟩:=HK.out.get j kids[j] hx
   rw [Nat.zero_add] at hcl
   have hmem:=List.getElem_mem hlt
   obtain ⟨y,hy⟩ : ∃ y,y = kids[j]:=⟨_,rfl⟩
   rw [<- hy] at hfk hx hmem
   obtain ⟨y0,y1,y2,y3,y5,yA,yn,yc,zA,zn,zc,rfl⟩:=aY hfk
   have hbl : b < w.heap.size:=hS.2
   have hcw : ∀ o',wr.cell? ⟨b,o',none⟩ = w.cell? ⟨b,o',none⟩:=fun o' => hbw.cell (p:=⟨b,o',none⟩) hbl
   have q0 : wr.cell? ⟨b,o + j * 7,none⟩ = some (.int .i64 y0):=(hcw _).trans (hcl 0 _ rfl)
   have q1 : wr.cell? ⟨b,o + j * 7 + 1,none⟩ = some (.string y1):=(hcw _).trans (hcl 1 _ rfl)
   have q2 : wr.cell? ⟨b,o + j * 7 + 2,none⟩ = some (.string y2):=(hcw _).trans (hcl 2 _ rfl)
   have q3 : wr.cell? ⟨b,o + j * 7 + 3,none⟩ = some (.string y3):=(hcw _).trans (hcl 3 _ rfl)
   have q4 : wr.cell? ⟨b,o + j * 7 + 4,none⟩ = some (.slice yA yn yc):=(hcw _).trans (hcl 4 _ rfl)
   have q5 : wr.cell? ⟨b,o + j * 7 + 5,none⟩ = some (.string y5):=(hcw _).trans (hcl 5 _ rfl)
   have q6 : wr.cell? ⟨b,o + j * 7 + 6,none⟩ = some (.slice zA zn zc):=(hcw _).trans (hcl 6 _ rfl)
   have hbr : b < wr.heap.size:=Nat.lt_of_lt_of_le hbl hbw.size
   have HX:=aa (cM (tl:=a8) hx)
   have hle : (PB.enc (a8 y)).length <= (PB.encs (kids.map a8)).length:=cQ (List.mem_map_of_mem hmem)
   have hll:=HL.out
   have HC:=aa (IH.out y hmem _ wr (FlAt.keep (T:=S) hbw.size (fun x _ hlt => hbw.block x hlt) (fun _ h _ => h) _ _ hfk))
   have hsize : s.size <= 16000000:=by
    have:=cL (kids.map a8) j
    rw [<- List.map_take] at this
    rw [aV HS.out]; omega
   have HNX:=aa fun (x : ByteArray) (hx : x.data.toList = PB.enc (a8 y)) => show ¬ 9223372036854775807 < s.size + x.size by rw [aV hx]; omega
   clear hx hc1 hcl hy hle hll hsize hS hcw hbl hbw hbk hfk hmem
   go_wp2_with (first
    | (go_at_call 57; go_must (refine HC.out.mono ?_); rintro e w2 ⟨hb2,x,rfl,hxl⟩; have hnx:=HNX.out x hxl; have HXL:=aa hxl; have HB2:=aa (HBW.out.trans (hb2.mono HBW.out.size)); have HK2:=aa (af HBK.out hb2); clear hb2 hxl)
    | fail)
   go_roundw
   case rel => exact ⟨j + 1,s ++ x,by go_num,rfl,by omega,by unfold Hid; rw [aP,HS.out,HXL.out,HX.out],HB2.out,HK2.out⟩
   case measure => simp [intOf]; omega
  ·have z1 : decide ((j : Int) < (kids.length : Int)) = false:=ae (by omega)
   have HF:=aa (show s.data.toList = PB.encs (kids.map a8) by rw [HS.out,List.take_of_length_le (by omega)])
   clear hbw hbk
   go_wp2_with (first
    | (go_at_call 29; go_must (refine (HT.out s HF.out _).mono ?_); rintro e w2 ⟨hb2,x,rfl,hxl⟩; have HXL:=aa hxl; have HB2:=aa (HBW.out.trans (hb2.mono HBW.out.size)); clear hb2 hxl)
    | fail)
   go_ret
   exact ⟨HB2.out,x,rfl,HXL.out⟩
theorem rfil_has (a v g : ByteArray) (any : List ByteArray) (l : ByteArray) (kids : List Fl) (c : List Value) (S : Nat -> Prop) (w : World) (h : FlAt w S (.mk 7 a v g any l kids) c) (hl : a.data.toList.length < 16000000) :
  Calls Tryz.prog 57 #[.agg c.toArray] w (RefS (PB.enc (town 7 a)) w):=by
 have e0 : PB.enc (town 7 a) = tlvB (bl 2 false 7) a.data.toList:=fG 2 7 a
 rw [e0]
 unfold FlAt at h
 obtain ⟨⟨qA,qn,qc⟩,⟨rA,rn,rc⟩,rfl,-,-,-,-⟩:=h
 simp only
 have HB:=aa ((Below.refl w.heap.size w).alloc (Nat.le_refl _) (.cells #[.int .i64 7,.string a,.string v,.string g,.slice qA qn qc,.string l,.slice rA rn rc] 25))
 have HT:=aa fun (W : World) => cE 2 false 7 _ a _ W rfl (by omega) (by omega) rfl (by omega)
 clear hl e0
 go_enter Tryz.func57,Tryz.ntmps57
 go_wp2_with (first
  | (go_at_call 29; go_must (refine (HT.out _).mono ?_); rintro e w2 ⟨hb2,x,rfl,hxl⟩; have HXL:=aa hxl; have HB2:=aa (HB.out.trans (hb2.mono HB.out.size)); clear hb2 hxl)
  | fail)
 go_ret
 exact ⟨HB2.out,x,rfl,HXL.out⟩
theorem rfil_pair (k : Nat) (a v g : ByteArray) (any : List ByteArray) (l : ByteArray) (kids : List Fl) (c : List Value) (S : Nat -> Prop) (w : World) (h : FlAt w S (.mk k a v g any l kids) c) (hk : 3 <= k /\ k <= 8 /\ k ≠ 4 /\ k ≠ 7) (hl : (PB.enc (.mk 2 true k ⟨#[]⟩ [tstr a,tstr v])).length < 16000000) :
  Calls Tryz.prog 57 #[.agg c.toArray] w (RefS (PB.enc (.mk 2 true k ⟨#[]⟩ [tstr a,tstr v])) w):=by
 have e0 : PB.enc (.mk 2 true k ⟨#[]⟩ [tstr a,tstr v]) = tlvB (bl 2 true k) (tlvB 4 a.data.toList ++ tlvB 4 v.data.toList):=by
  rw [show (PB.enc (.mk 2 true k ⟨#[]⟩ [tstr a,tstr v])) = _ from dN 2 k _,PB.encs,du,PB.encs,du,PB.encs,List.append_nil]
 rw [e0] at hl |-
 have u0:=bF (bl 2 true k) (tlvB 4 a.data.toList ++ tlvB 4 v.data.toList)
 rw [List.length_append] at u0
 have u1:=bF 4 a.data.toList
 have u2:=bF 4 v.data.toList
 have u3 : a.size = a.data.toList.length:=rfl
 have u4 : v.size = v.data.toList.length:=rfl
 unfold FlAt at h
 obtain ⟨⟨qA,qn,qc⟩,⟨rA,rn,rc⟩,rfl,-,-,-,-⟩:=h
 simp only
 obtain ⟨wa,hwa⟩ : ∃ W,W = w.alloc (.cells #[.int .i64 k,.string a,.string v,.string g,.slice qA qn qc,.string l,.slice rA rn rc] 25):=⟨_,rfl⟩
 have hba : Below w.heap.size w wa:=by rw [hwa]; exact (Below.refl w.heap.size w).alloc (Nat.le_refl _) _
 have hka : Bk wa w.heap.size 25 #[.int .i64 k,.string a,.string v,.string g,.slice qA qn qc,.string l,.slice rA rn rc]:=by rw [hwa]; exact Bk.new w _ _
 have HB:=aa hba
 have HW1:=aa hwa
 have H1:=aa fun W => dd a W (by omega)
 have H2:=aa fun W => dd v W (by omega)
 have H3:=aa fun (s : ByteArray) (h : s.data.toList = tlvB 4 a.data.toList ++ tlvB 4 v.data.toList) (W : World) => cE 2 true k _ s _ W rfl (by omega) (by omega) h (by rw [List.length_append]; omega)
 have HNX:=aa (show ∀ x y : ByteArray,x.data.toList = tlvB 4 a.data.toList -> y.data.toList = tlvB 4 v.data.toList -> ¬ 9223372036854775807 < x.size + y.size from fun x y hx hy => by rw [aV hx,aV hy]; omega)
 have HKS:=aa fun (W : World) (hb : Below wa.heap.size wa W) => (show W.cell? ⟨w.heap.size,0,none⟩ = some (.int .i64 k) /\ W.cell? ⟨w.heap.size,1,none⟩ = some (.string a) /\ W.cell? ⟨w.heap.size,2,none⟩ = some (.string v) from ⟨(af hka hb).cell 0,(af hka hb).cell 1,(af hka hb).cell 2⟩)
 have HBR:=aa (Below.refl wa.heap.size wa).drew
 have p0 : wa.cell? ⟨w.heap.size,0,none⟩ = some (.int .i64 k):=hka.cell 0
 have l1:=hka.lt
 have t1 : decide ((k : Int) <= 2) = false:=ae (by omega)
 have t2 : ((k : Int) == 7) = false:=by simp; omega
 have t3 : ((k : Int) != 4) = true:=by simp; omega
 have t4 : ((k : Int) == 4) = false:=by simp; omega
 clear hl e0 u0 u1 u2 u3 u4 hwa hba hka hk
 go_enter Tryz.func57,Tryz.ntmps57
 go_wp2_with fail
 rw [<- HW1.out]
 go_region_held3 (fun W => W.cell? ⟨w.heap.size,0,none⟩ = some (.int .i64 k) /\ W.cell? ⟨w.heap.size,1,none⟩ = some (.string a) /\ W.cell? ⟨w.heap.size,2,none⟩ = some (.string v))
  (first | (with_reducible exact HKS.out _ HBR.out) | (with_reducible exact HKS.out _ (by assumption)))
  (first
   | (go_at_call 26; (with_reducible refine (H1.out _).mono ?_); rintro e w2 ⟨hb2,x,rfl,hx⟩; have hn2:=ag HBR.out hb2; have HX:=aa hx)
   | (go_at_call 26; (with_reducible refine (H2.out _).mono ?_); rintro e w3 ⟨hb3,y,rfl,hy⟩; have hn3:=ag hn2 hb3; have hnx:=HNX.out x y HX.out hy; have HY:=aa (show (x ++ y).data.toList = tlvB 4 a.data.toList ++ tlvB 4 v.data.toList by rw [aP,HX.out,hy]))
   | (go_at_call 29; (refine (H3.out (x ++ y) HY.out _).mono ?_); rintro e w4 ⟨hb4,z,rfl,hz⟩; have hn4:=ag hn3 hb4; have HZ:=aa hz)
   | fail)
 all_goals
  have HB4:=aa (HB.out.trans (hn4.mono HB.out.size))
  go_wp2_with fail
  go_ret
  exact ⟨HB4.out,z,rfl,HZ.out⟩
def cm (k : Nat) (g : ByteArray) : List UInt8:=PB.encs (if aj g then [town k g] else [])
theorem dw (g : ByteArray) (any : List ByteArray) (l : ByteArray) : PB.encs (aF g any l) = cm 0 g ++ (PB.encs (any.map (town 1)) ++ cm 2 l):=by
 unfold aF cm
 rw [PB.encs_app,PB.encs_app]
 rfl
theorem bT {k : Nat} {g : ByteArray} (h : aj g = true) : cm k g = tlvB (bl 2 false k) g.data.toList:=by
 unfold cm
 rw [if_pos h,PB.encs,PB.encs,List.append_nil]
 exact fG 2 k g
theorem fQ {k : Nat} {g : ByteArray} (h : aj g = false) : cm k g = []:=by
 unfold cm
 rw [if_neg (by rw [h]; simp)]
 rfl
theorem rfil_part (a v g : ByteArray) (any : List ByteArray) (l : ByteArray) (kids : List Fl) (c : List Value) (S : Nat -> Prop) (w : World) (h : FlAt w S (.mk 4 a v g any l kids) c) (hn : any.length <= 1000000) (hl : (PB.enc (.mk 2 true 4 ⟨#[]⟩ [tstr a,aI (aF g any l)])).length < 16000000) :
  Calls Tryz.prog 57 #[.agg c.toArray] w (RefS (PB.enc (.mk 2 true 4 ⟨#[]⟩ [tstr a,aI (aF g any l)])) w):=by
 have e0 : PB.enc (.mk 2 true 4 ⟨#[]⟩ [tstr a,aI (aF g any l)]) = tlvB (bl 2 true 4) (tlvB 4 a.data.toList ++ tlvB 48 (PB.encs (aF g any l))):=by
  rw [show (PB.enc (.mk 2 true 4 ⟨#[]⟩ [tstr a,aI (aF g any l)])) = _ from dN 2 4 _,PB.encs,du,PB.encs,enc_list,PB.encs,List.append_nil]
 rw [e0] at hl |-
 have u0:=bF (bl 2 true 4) (tlvB 4 a.data.toList ++ tlvB 48 (PB.encs (aF g any l)))
 rw [List.length_append] at u0
 have u1:=bF 4 a.data.toList
 have u2:=bF 48 (PB.encs (aF g any l))
 have u3 : a.size = a.data.toList.length:=rfl
 have u5 : (PB.encs (aF g any l)).length = (cm 0 g).length + ((PB.encs (any.map (town 1))).length + (cm 2 l).length):=by rw [dw,List.length_append,List.length_append]
 unfold FlAt at h
 obtain ⟨⟨qA,qn,qc⟩,⟨rA,rn,rc⟩,rfl,-,⟨hq1,hq2,hq3,hq4⟩,-,-⟩:=h
 simp only at hq1 hq2 hq3 hq4 |-
 subst hq1
 obtain ⟨wa,hwa⟩ : ∃ W,W = w.alloc (.cells #[.int .i64 4,.string a,.string v,.string g,.slice qA any.length qc,.string l,.slice rA rn rc] 25):=⟨_,rfl⟩
 have hba : Below w.heap.size w wa:=by rw [hwa]; exact (Below.refl w.heap.size w).alloc (Nat.le_refl _) _
 have hka : Bk wa w.heap.size 25 #[.int .i64 4,.string a,.string v,.string g,.slice qA any.length qc,.string l,.slice rA rn rc]:=by rw [hwa]; exact Bk.new w _ _
 have HB:=aa hba
 have HKA:=aa hka
 have HW1:=aa hwa
 have hqm : qc <= 9223372036854775807:=by unfold maxLen at hq3; omega
 have HQ:=aa hq4
 have HU:=aa (And.intro u0 (And.intro u1 (And.intro u2 (And.intro u3 (And.intro u5 hl)))))
 have H1:=aa fun W => dd a W (by omega)
 have H2:=aa fun (s : ByteArray) (h : s.data.toList = PB.encs (aF g any l)) (W : World) => rlist_at s _ W h (by omega)
 have H3:=aa fun (s : ByteArray) (h : s.data.toList = tlvB 4 a.data.toList ++ tlvB 48 (PB.encs (aF g any l))) (W : World) => cE 2 true 4 _ s _ W rfl (by omega) (by omega) h (by rw [List.length_append]; omega)
 have HNX:=aa (show ∀ x y : ByteArray,x.data.toList = tlvB 4 a.data.toList -> y.data.toList = tlvB 48 (PB.encs (aF g any l)) -> ¬ 9223372036854775807 < x.size + y.size from fun x y hx hy => by rw [aV hx,aV hy]; omega)
 clear hl e0 u0 u1 u2 u3 u5 hwa hba hka hq4 hq3
 go_enter Tryz.func57,Tryz.ntmps57
 cases hf : aj g
 ·have y1:=(aE hf).1
  have HS0:=aa (show (⟨#[]⟩ : ByteArray).data.toList = cm 0 g by rw [fQ hf])
  have HB0:=HB
  have HK0:=HKA
  clear hf
  go_wp2_with fail
  rw [<- HW1.out]
  clear y1
  go_loopw [3,5] (fun u i wr => ∃ (j : Nat) (s : ByteArray),i = .int .i64 j /\ u = .string s /\ j <= any.length /\ Hid (s.data.toList = cm 0 g ++ PB.encs ((any.take j).map (town 1))) /\ Below w.heap.size w wr /\ Bk wr w.heap.size 25 #[.int .i64 4,.string a,.string v,.string g,.slice qA any.length qc,.string l,.slice rA rn rc]) (fun _ i _ => any.length - (intOf i).toNat)
  case atStart => exact ⟨0,_,rfl,rfl,Nat.zero_le _,by unfold Hid; simp only [List.take_zero,List.map_nil,PB.encs,List.append_nil]; exact HS0.out,HB0.out,HK0.out⟩
  case round =>
   obtain ⟨j,s,rfl,rfl,hj,HS,hbw,hbk⟩:=hrel
   have HBW:=aa hbw
   have HBK:=aa hbk
   have p1 : wr.cell? ⟨w.heap.size,1,none⟩ = some (.string a):=hbk.cell 1
   have p4 : wr.cell? ⟨w.heap.size,4,none⟩ = some (.slice qA any.length qc):=hbk.cell 4
   have p5 : wr.cell? ⟨w.heap.size,5,none⟩ = some (.string l):=hbk.cell 5
   have l1:=hbk.lt
   have hsize : s.size <= 16000000:=by
    have:=cL (any.map (town 1)) j
    rw [<- List.map_take] at this
    have hu:=HU.out
    rw [aV HS.out,List.length_append]; omega
   by_cases hlt : j < any.length
   ·have z1 : decide ((j : Int) < (any.length : Int)) = true:=ab (by omega)
    have hx : any[j]? = some any[j]:=List.getElem?_eq_getElem hlt
    obtain ⟨b,o,c,rfl,hS,hcl,hc,hat,hsz⟩:=HQ.out j any[j] hx
    subst hat
    have q0 : wr.cell? ⟨b,o + j,none⟩ = some (.string any[j]):=by have:=hc 0 _ rfl; rw [Nat.mul_one,Nat.add_zero] at this; exact (hbw.cell (p:=⟨b,o + j,none⟩) hS.2).trans this
    have hb1 : b < wr.heap.size:=Nat.lt_of_lt_of_le hS.2 hbw.size
    have hmem:=List.getElem_mem hlt
    obtain ⟨t,ht⟩ : ∃ t,t = any[j]:=⟨_,rfl⟩
    rw [<- ht] at q0 hx hmem
    have HX:=aa (cM (tl:=town 1) hx)
    have hle : (PB.enc (town 1 t)).length <= (PB.encs (any.map (town 1))).length:=cQ (List.mem_map_of_mem hmem)
    have HE:=aa (show PB.enc (town 1 t) = tlvB (bl 2 false 1) t.data.toList from fG 2 1 t)
    rw [HE.out] at hle
    have hhu:=HU.out
    have htl:=bF (bl 2 false 1) t.data.toList
    have HC:=aa (cE 2 false 1 _ t _ wr rfl (by omega) (by omega) rfl (by omega))
    have HNX1:=aa fun (x : ByteArray) (hx : x.data.toList = tlvB (bl 2 false 1) t.data.toList) => show ¬ 9223372036854775807 < s.size + x.size by rw [aV hx]; omega
    clear hx hc ht hle hhu htl hsize hS hcl hbw hbk hmem hsz
    go_wp2_with (first
     | (go_at_call 29; go_must (refine HC.out.mono ?_); rintro e w2 ⟨hb2,x,rfl,hxl⟩; have hnx:=HNX1.out x hxl; have HXL:=aa hxl; have HB2:=aa (HBW.out.trans (hb2.mono HBW.out.size)); have HK2:=aa (af HBK.out hb2); clear hb2 hxl)
     | fail)
    go_roundw
    case rel => exact ⟨j + 1,s ++ x,by go_num,rfl,by omega,by unfold Hid; rw [aP,HS.out,HXL.out,HX.out,HE.out,List.append_assoc],HB2.out,HK2.out⟩
    case measure => simp [intOf]; omega
   ·have z1 : decide ((j : Int) < (any.length : Int)) = false:=ae (by omega)
    have HF9:=aa (show s.data.toList = cm 0 g ++ PB.encs (any.map (town 1)) by rw [HS.out,List.take_of_length_le (by omega)])
    cases hf : aj l
    ·have y1:=(aE hf).1
     have HS3:=aa (show s.data.toList = PB.encs (aF g any l) by rw [HF9.out,dw,fQ hf,List.append_nil])
     clear hf hbw hbk hsize
     go_wp2_with fail
     clear y1 p4 p5 z1 hlt
     obtain ⟨wx,rfl⟩ : ∃ W,W = wr:=⟨_,rfl⟩
     have HB3:=HBW
     have HK3:=HBK
     have l5:=HK3.out.lt
     go_wp2_with (first
      | (go_at_call 26; go_must (refine (H1.out _).mono ?_); rintro e w5 ⟨hb5,y,rfl,hy⟩; have hn5:=hb5; have HY:=aa hy; clear hb5 hy)
      | (go_at_call 28; go_must (refine (H2.out s HS3.out _).mono ?_); rintro e w6 ⟨hb6,z,rfl,hz⟩; have hn6:=ag hn5 hb6; have hnx:=HNX.out y z HY.out hz; have HZ:=aa (show (y ++ z).data.toList = tlvB 4 a.data.toList ++ tlvB 48 (PB.encs (aF g any l)) by rw [aP,HY.out,hz]); clear hb6 hz)
      | (go_at_call 29; go_must (refine (H3.out (y ++ z) HZ.out _).mono ?_); rintro e w7 ⟨hb7,r,rfl,hr⟩; have HB7:=aa (HB3.out.trans ((ag hn6 hb7).mono HB3.out.size)); have HR:=aa hr; clear hb7 hr)
      | fail)
     go_ret
     exact ⟨HB7.out,r,rfl,HR.out⟩
    ·have y1:=aU hf
     have HFF:=aa hf
     have HT:=aa (cE 2 false 2 _ l _ wr rfl (by omega) (by omega) rfl (by
      have h1:=HU.out
      rw [bT (k:=2) HFF.out] at h1
      have h2:=bF (bl 2 false 2) l.data.toList
      omega))
     have HNX1:=aa fun (x : ByteArray) (hx : x.data.toList = tlvB (bl 2 false 2) l.data.toList) => show ¬ 9223372036854775807 < s.size + x.size by
      have h1:=HU.out
      rw [bT (k:=2) HFF.out] at h1
      rw [aV hx]; omega
     clear hf hbw hbk hsize
     go_wp2_with (first
      | (go_at_call 29; go_must (refine HT.out.mono ?_); rintro e wx ⟨hb2,x,rfl,hxl⟩; have hnx:=HNX1.out x hxl; have HS3:=aa (show (s ++ x).data.toList = PB.encs (aF g any l) by rw [aP,HF9.out,hxl,dw,bT (k:=2) HFF.out,List.append_assoc]); have HB3:=aa (HBW.out.trans (hb2.mono HBW.out.size)); have HK3:=aa (af HBK.out hb2); have p1':=HK3.out.cell 1; have l1':=HK3.out.lt; clear hb2 hxl)
      | fail)
     clear y1 p4 p5 z1 hlt p1 l1 hnx
     generalize s ++ x = s at HS3 |-
     have l5:=HK3.out.lt
     go_wp2_with (first
      | (go_at_call 26; go_must (refine (H1.out _).mono ?_); rintro e w5 ⟨hb5,y,rfl,hy⟩; have hn5:=hb5; have HY:=aa hy; clear hb5 hy)
      | (go_at_call 28; go_must (refine (H2.out s HS3.out _).mono ?_); rintro e w6 ⟨hb6,z,rfl,hz⟩; have hn6:=ag hn5 hb6; have hnx:=HNX.out y z HY.out hz; have HZ:=aa (show (y ++ z).data.toList = tlvB 4 a.data.toList ++ tlvB 48 (PB.encs (aF g any l)) by rw [aP,HY.out,hz]); clear hb6 hz)
      | (go_at_call 29; go_must (refine (H3.out (y ++ z) HZ.out _).mono ?_); rintro e w7 ⟨hb7,r,rfl,hr⟩; have HB7:=aa (HB3.out.trans ((ag hn6 hb7).mono HB3.out.size)); have HR:=aa hr; clear hb7 hr)
      | fail)
     go_ret
     exact ⟨HB7.out,r,rfl,HR.out⟩
 ·have y1:=aU hf
  have HF:=aa hf
  have HT:=aa fun (W : World) => cE 2 false 0 _ g _ W rfl (by omega) (by omega) rfl (by
   have h1:=HU.out
   rw [bT HF.out] at h1
   have h2:=bF (bl 2 false 0) g.data.toList
   omega)
  clear hf
  go_wp2_with (first
   | (go_at_call 29; go_must (refine (HT.out _).mono ?_); rintro e w2 ⟨hb2,x,rfl,hxl⟩; rw [<- HW1.out] at hb2; have HS0:=aa (show x.data.toList = cm 0 g by rw [bT HF.out]; exact hxl); have HB0:=aa (HB.out.trans (hb2.mono HB.out.size)); have HK0:=aa (af HKA.out hb2); clear hb2 hxl)
   | fail)
  clear y1
  go_loopw [3,5] (fun u i wr => ∃ (j : Nat) (s : ByteArray),i = .int .i64 j /\ u = .string s /\ j <= any.length /\ Hid (s.data.toList = cm 0 g ++ PB.encs ((any.take j).map (town 1))) /\ Below w.heap.size w wr /\ Bk wr w.heap.size 25 #[.int .i64 4,.string a,.string v,.string g,.slice qA any.length qc,.string l,.slice rA rn rc]) (fun _ i _ => any.length - (intOf i).toNat)
  case atStart => exact ⟨0,_,rfl,rfl,Nat.zero_le _,by unfold Hid; simp only [List.take_zero,List.map_nil,PB.encs,List.append_nil]; exact HS0.out,HB0.out,HK0.out⟩
  case round =>
   obtain ⟨j,s,rfl,rfl,hj,HS,hbw,hbk⟩:=hrel
   have HBW:=aa hbw
   have HBK:=aa hbk
   have p1 : wr.cell? ⟨w.heap.size,1,none⟩ = some (.string a):=hbk.cell 1
   have p4 : wr.cell? ⟨w.heap.size,4,none⟩ = some (.slice qA any.length qc):=hbk.cell 4
   have p5 : wr.cell? ⟨w.heap.size,5,none⟩ = some (.string l):=hbk.cell 5
   have l1:=hbk.lt
   have hsize : s.size <= 16000000:=by
    have:=cL (any.map (town 1)) j
    rw [<- List.map_take] at this
    have hu:=HU.out
    rw [aV HS.out,List.length_append]; omega
   by_cases hlt : j < any.length
   ·have z1 : decide ((j : Int) < (any.length : Int)) = true:=ab (by omega)
    have hx : any[j]? = some any[j]:=List.getElem?_eq_getElem hlt
    obtain ⟨b,o,c,rfl,hS,hcl,hc,hat,hsz⟩:=HQ.out j any[j] hx
    subst hat
    have q0 : wr.cell? ⟨b,o + j,none⟩ = some (.string any[j]):=by have:=hc 0 _ rfl; rw [Nat.mul_one,Nat.add_zero] at this; exact (hbw.cell (p:=⟨b,o + j,none⟩) hS.2).trans this
    have hb1 : b < wr.heap.size:=Nat.lt_of_lt_of_le hS.2 hbw.size
    have hmem:=List.getElem_mem hlt
    obtain ⟨t,ht⟩ : ∃ t,t = any[j]:=⟨_,rfl⟩
    rw [<- ht] at q0 hx hmem
    have HX:=aa (cM (tl:=town 1) hx)
    have hle : (PB.enc (town 1 t)).length <= (PB.encs (any.map (town 1))).length:=cQ (List.mem_map_of_mem hmem)
    have HE:=aa (show PB.enc (town 1 t) = tlvB (bl 2 false 1) t.data.toList from fG 2 1 t)
    rw [HE.out] at hle
    have hhu:=HU.out
    have htl:=bF (bl 2 false 1) t.data.toList
    have HC:=aa (cE 2 false 1 _ t _ wr rfl (by omega) (by omega) rfl (by omega))
    have HNX1:=aa fun (x : ByteArray) (hx : x.data.toList = tlvB (bl 2 false 1) t.data.toList) => show ¬ 9223372036854775807 < s.size + x.size by rw [aV hx]; omega
    clear hx hc ht hle hhu htl hsize hS hcl hbw hbk hmem hsz
    go_wp2_with (first
     | (go_at_call 29; go_must (refine HC.out.mono ?_); rintro e w2 ⟨hb2,x,rfl,hxl⟩; have hnx:=HNX1.out x hxl; have HXL:=aa hxl; have HB2:=aa (HBW.out.trans (hb2.mono HBW.out.size)); have HK2:=aa (af HBK.out hb2); clear hb2 hxl)
     | fail)
    go_roundw
    case rel => exact ⟨j + 1,s ++ x,by go_num,rfl,by omega,by unfold Hid; rw [aP,HS.out,HXL.out,HX.out,HE.out,List.append_assoc],HB2.out,HK2.out⟩
    case measure => simp [intOf]; omega
   ·have z1 : decide ((j : Int) < (any.length : Int)) = false:=ae (by omega)
    have HF9:=aa (show s.data.toList = cm 0 g ++ PB.encs (any.map (town 1)) by rw [HS.out,List.take_of_length_le (by omega)])
    cases hf : aj l
    ·have y1:=(aE hf).1
     have HS3:=aa (show s.data.toList = PB.encs (aF g any l) by rw [HF9.out,dw,fQ hf,List.append_nil])
     clear hf hbw hbk hsize
     go_wp2_with fail
     clear y1 p4 p5 z1 hlt
     obtain ⟨wx,rfl⟩ : ∃ W,W = wr:=⟨_,rfl⟩
     have HB3:=HBW
     have HK3:=HBK
     have l5:=HK3.out.lt
     go_wp2_with (first
      | (go_at_call 26; go_must (refine (H1.out _).mono ?_); rintro e w5 ⟨hb5,y,rfl,hy⟩; have hn5:=hb5; have HY:=aa hy; clear hb5 hy)
      | (go_at_call 28; go_must (refine (H2.out s HS3.out _).mono ?_); rintro e w6 ⟨hb6,z,rfl,hz⟩; have hn6:=ag hn5 hb6; have hnx:=HNX.out y z HY.out hz; have HZ:=aa (show (y ++ z).data.toList = tlvB 4 a.data.toList ++ tlvB 48 (PB.encs (aF g any l)) by rw [aP,HY.out,hz]); clear hb6 hz)
      | (go_at_call 29; go_must (refine (H3.out (y ++ z) HZ.out _).mono ?_); rintro e w7 ⟨hb7,r,rfl,hr⟩; have HB7:=aa (HB3.out.trans ((ag hn6 hb7).mono HB3.out.size)); have HR:=aa hr; clear hb7 hr)
      | fail)
     go_ret
     exact ⟨HB7.out,r,rfl,HR.out⟩
    ·have y1:=aU hf
     have HFF:=aa hf
     have HT:=aa (cE 2 false 2 _ l _ wr rfl (by omega) (by omega) rfl (by
      have h1:=HU.out
      rw [bT (k:=2) HFF.out] at h1
      have h2:=bF (bl 2 false 2) l.data.toList
      omega))
     have HNX1:=aa fun (x : ByteArray) (hx : x.data.toList = tlvB (bl 2 false 2) l.data.toList) => show ¬ 9223372036854775807 < s.size + x.size by
      have h1:=HU.out
      rw [bT (k:=2) HFF.out] at h1
      rw [aV hx]; omega
     clear hf hbw hbk hsize
     go_wp2_with (first
      | (go_at_call 29; go_must (refine HT.out.mono ?_); rintro e wx ⟨hb2,x,rfl,hxl⟩; have hnx:=HNX1.out x hxl; have HS3:=aa (show (s ++ x).data.toList = PB.encs (aF g any l) by rw [aP,HF9.out,hxl,dw,bT (k:=2) HFF.out,List.append_assoc]); have HB3:=aa (HBW.out.trans (hb2.mono HBW.out.size)); have HK3:=aa (af HBK.out hb2); have p1':=HK3.out.cell 1; have l1':=HK3.out.lt; clear hb2 hxl)
      | fail)
     clear y1 p4 p5 z1 hlt p1 l1 hnx
     generalize s ++ x = s at HS3 |-
     have l5:=HK3.out.lt
     go_wp2_with (first
      | (go_at_call 26; go_must (refine (H1.out _).mono ?_); rintro e w5 ⟨hb5,y,rfl,hy⟩; have hn5:=hb5; have HY:=aa hy; clear hb5 hy)
      | (go_at_call 28; go_must (refine (H2.out s HS3.out _).mono ?_); rintro e w6 ⟨hb6,z,rfl,hz⟩; have hn6:=ag hn5 hb6; have hnx:=HNX.out y z HY.out hz; have HZ:=aa (show (y ++ z).data.toList = tlvB 4 a.data.toList ++ tlvB 48 (PB.encs (aF g any l)) by rw [aP,HY.out,hz]); clear hb6 hz)
      | (go_at_call 29; go_must (refine (H3.out (y ++ z) HZ.out _).mono ?_); rintro e w7 ⟨hb7,r,rfl,hr⟩; have HB7:=aa (HB3.out.trans ((ag hn6 hb7).mono HB3.out.size)); have HR:=aa hr; clear hb7 hr)
      | fail)
     go_ret
     exact ⟨HB7.out,r,rfl,HR.out⟩
def REnc (f : Fl) : Prop:=∀ (c : List Value) (S : Nat -> Prop) (W : World),FlAt W S f c -> Calls Tryz.prog 57 #[.agg c.toArray] W (RefS (PB.enc (a8 f)) W)
theorem Fl.one_kind {k : Int} {a v f : ByteArray} {any : List ByteArray} {l : ByteArray} {kids : List Fl} (h : Fl.one (.mk k a v f any l kids) = true) : 0 <= k /\ k <= 8:=by
 rw [Fl.one_mk] at h
 by_cases h0 : k = 0 \/ k = 1
 ·omega
 rw [if_neg h0] at h
 by_cases h2 : k = 2
 ·omega
 rw [if_neg h2] at h
 by_cases h3 : k = 3 \/ k = 5 \/ k = 6 \/ k = 8
 ·omega
 rw [if_neg h3] at h
 by_cases h7 : k = 7
 ·omega
 rw [if_neg h7] at h
 by_cases h4 : k = 4
 ·omega
 rw [if_neg h4] at h
 cases h
theorem bj (c g : Int) (ks : List Tl) : (PB.encs ks).length <= (PB.enc (.mk c true g ⟨#[]⟩ ks)).length:=by
 unfold PB.enc
 rw [if_pos rfl]
 simp only [List.length_cons,List.length_append]
 omega
theorem leaf_sz (c g : Int) (s : ByteArray) : s.data.toList.length <= (PB.enc (.mk c false g s [])).length:=by
 unfold PB.enc
 rw [if_neg (by decide)]
 simp only [List.length_cons,List.length_append]
 omega
mutual
theorem rfil_any : ∀ (f : Fl) (e x : Int),0 <= f.cnt e x -> f.slim -> (PB.enc (a8 f)).length < 16000000 -> REnc f
 | .mk k a v g any l kids,e,x,hr,hs,hl => by
  have ih:=rfils_any kids
  unfold Fl.cnt at hr
  by_cases hn : x - 1 < 0 \/ 8 < e \/ Fl.one (.mk k a v g any l kids) = false
  ·rw [if_pos hn] at hr; omega
  rw [if_neg hn] at hr
  have ho : Fl.one (.mk k a v g any l kids) = true:=by
   cases ho : Fl.one (.mk k a v g any l kids) with
   | true => rfl
   | false => exact absurd (.inr (.inr ho)) hn
  have hk:=Fl.one_kind ho
  unfold Fl.slim at hs
  obtain ⟨s1,s2,s3⟩:=hs
  intro c S W h
  obtain ⟨k',rfl⟩ : ∃ k' : Nat,k = k':=⟨k.toNat,by omega⟩
  unfold a8 at hl |-
  by_cases h2 : (k' : Int) = 0 \/ (k' : Int) = 1 \/ (k' : Int) = 2
  ·rw [if_pos h2,eV] at hl |-
   have hl2:=bj 2 k' (kids.map a8)
   rw [show PB.enc (.mk 2 true (k' : Int) ⟨#[]⟩ (kids.map a8)) = _ from dN 2 k' _]
   exact rfil_many k' a v g any l kids c S W h (by omega) s2 (by omega) fun y hy c2 W2 h2 => ih y hy (e + 1) (x - 1) hr s3 (by omega) c2 S W2 h2
  rw [if_neg h2] at hl |-
  by_cases h7 : (k' : Int) = 7
  ·rw [if_pos h7] at hl |-
   obtain rfl : k' = 7:=by omega
   refine rfil_has a v g any l kids c S W h ?_
   have:=leaf_sz 2 7 a
   unfold town at hl
   omega
  rw [if_neg h7] at hl |-
  by_cases h4 : (k' : Int) = 4
  ·rw [if_pos h4] at hl |-
   obtain rfl : k' = 4:=by omega
   exact rfil_part a v g any l kids c S W h s1 hl
  rw [if_neg h4] at hl |-
  exact rfil_pair k' a v g any l kids c S W h (by omega) hl
theorem rfils_any : ∀ (ks : List Fl),∀ y ∈ ks,∀ (e x : Int),0 <= Fl.cnts ks e x -> Fl.slims ks -> (PB.encs (ks.map a8)).length < 16000000 -> REnc y
 | [],y,h => by simp at h
 | k :: ks,y,h => fun e x hr hs hl => by
  have h1:=rfil_any k
  have h2:=rfils_any ks
  unfold Fl.cnts at hr
  unfold Fl.slims at hs
  rw [List.map_cons,PB.encs,List.length_append] at hl
  by_cases hc : k.cnt e x < 0
  ·rw [if_pos hc] at hr; omega
  rw [if_neg hc] at hr
  rcases List.mem_cons.1 h with rfl | h
  ·exact h1 e x (by omega) hs.1 (by omega)
  ·exact h2 y h e _ hr hs.2 (by omega)
end
end Go.Proofs.YtbiglfpikfjbpaaGreatDoor
