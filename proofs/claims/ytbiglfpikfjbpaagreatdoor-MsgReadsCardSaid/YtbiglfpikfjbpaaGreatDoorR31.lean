import Derived.Test.YtbiglfpikfjbpaaGreatDoorR30
namespace Go.Proofs.YtbiglfpikfjbpaaGreatDoor
open Go.RowKit
open Go.PlainAid
set_option maxRecDepth 100000
set_option linter.unusedVariables false
set_option linter.unusedSimpArgs false
set_option maxHeartbeats 40000000
theorem rfil_many (k : Nat) (a v g : ByteArray) (any : List ByteArray) (l : ByteArray) (kids : List Fl) (c : List Value) (S : Nat -> Prop) (w : World) (h : FlAt w S (.mk k a v g any l kids) c) (hk : k <= 2) (hn : kids.length <= 1000000) (hl : (PB.encs (kids.map aV)).length < 16000000)
  (ih : ∀ y ∈ kids,∀ (c : List Value) (W : World),FlAt W S y c -> Calls Tryz.prog 57 #[.agg c.toArray] W (RefS (PB.enc (aV y)) W)) :
  Calls Tryz.prog 57 #[.agg c.toArray] w (RefS (tlvB (bi 2 true k) (PB.encs (kids.map aV))) w):=by
 have IH:=aa ih
 clear ih
 unfold FlAt at h
 obtain ⟨⟨qA,qn,qc⟩,⟨rA,rn,rc⟩,rfl,-,⟨hq1,hq2,hq3,hq4⟩,⟨hr1,hr2,hr3⟩,hks⟩:=h
 simp only at hq1 hq2 hq3 hq4 hr1 hr2 hr3 hks |-
 subst hr1 hq1
 obtain ⟨wa,hwa⟩ : ∃ W,W = w.alloc (.cells #[.int .i64 k,.string a,.string v,.string g,.slice qA any.length qc,.string l,.slice rA kids.length rc] 25):=⟨_,rfl⟩
 have hba : Below w.heap.size w wa:=by rw [hwa]; exact (Below.refl w.heap.size w).alloc (Nat.le_refl _) _
 have hka : Bk wa w.heap.size 25 #[.int .i64 k,.string a,.string v,.string g,.slice qA any.length qc,.string l,.slice rA kids.length rc]:=by rw [hwa]; exact Bk.new w _ _
 have HB:=aa hba
 have HK1:=aa hka
 have HW1:=aa hwa
 have hrm : rc <= 9223372036854775807:=by unfold maxLen at hr3; omega
 have hqm : qc <= 9223372036854775807:=by unfold maxLen at hq3; omega
 have HK:=aa hks
 have HL:=aa hl
 have HT:=aa fun (s : ByteArray) (hs : s.data.toList = PB.encs (kids.map aV)) (W : World) => cv 2 true k _ s _ W rfl (by omega) (by omega) hs (by omega)
 have t1 : decide ((k : Int) <= 2) = true:=ab (by omega)
 clear hwa hba hka hq4 hks hq3 hr3 hl
 go_enter Tryz.func57,Tryz.ntmps57
 go_wp2_with fail
 rw [<- HW1.out]
 go_loopw [3,4] (fun u i wr => ∃ (j : Nat) (s : ByteArray),i = .int .i64 j /\ u = .string s /\ j <= kids.length /\ Hid (s.data.toList = PB.encs ((kids.take j).map aV)) /\ Below w.heap.size w wr /\ Bk wr w.heap.size 25 #[.int .i64 k,.string a,.string v,.string g,.slice qA any.length qc,.string l,.slice rA kids.length rc]) (fun _ i _ => kids.length - (intOf i).toNat)
 case atStart => exact ⟨0,⟨#[]⟩,rfl,rfl,Nat.zero_le _,by unfold Hid; simp [PB.encs],HB.out,HK1.out⟩
 case round =>
  obtain ⟨j,s,rfl,rfl,hj,HS,hbw,hbk⟩:=hrel
  have HBW:=aa hbw
  have HBK:=aa hbk
  have p0 : wr.cell? ⟨w.heap.size,0,none⟩ = some (.int .i64 k):=hbk.cell 0
  have p6 : wr.cell? ⟨w.heap.size,6,none⟩ = some (.slice rA kids.length rc):=hbk.cell 6
  have l1:=hbk.lt
  by_cases hlt : j < kids.length
  ·have z1 : decide ((j : Int) < (kids.length : Int)) = true:=ab (by omega)
   have hx : kids[j]? = some kids[j]:=List.getElem?_eq_getElem hlt
   obtain ⟨b,o,c,rfl,hS,hc1,hcl,hfk⟩:=HK.out.get j kids[j] hx
   rw [Nat.zero_add] at hcl
   have hmem:=List.getElem_mem hlt
   obtain ⟨y,hy⟩ : ∃ y,y = kids[j]:=⟨_,rfl⟩
   rw [<- hy] at hfk hx hmem
   obtain ⟨y0,y1,y2,y3,y5,yA,yn,yc,zA,zn,zc,rfl⟩:=bh hfk
   have hbl : b < w.heap.size:=hS.2
   have hcw : ∀ o',wr.cell? ⟨b,o',none⟩ = w.cell? ⟨b,o',none⟩:=fun o' => hbw.cell (p:=⟨b,o',none⟩) hbl
   have q0 : wr.cell? ⟨b,o + j * 7,none⟩ = some (.int .i64 y0):=(hcw _).trans (hcl 0 _ rfl)
   have q1 : wr.cell? ⟨b,o + j * 7 + 1,none⟩ = some (.string y1):=(hcw _).trans (hcl 1 _ rfl)
   have q2 : wr.cell? ⟨b,o + j * 7 + 2,none⟩ = some (.string y2):=(hcw _).trans (hcl 2 _ rfl)
   have q3 : wr.cell? ⟨b,o + j * 7 + 3,none⟩ = some (.string y3):=(hcw _).trans (hcl 3 _ rfl)
   have q4 : wr.cell? ⟨b,o + j * 7 + 4,none⟩ = some (.slice yA yn yc):=(hcw _).trans (hcl 4 _ rfl)
   have q5 : wr.cell? ⟨b,o + j * 7 + 5,none⟩ = some (.string y5):=(hcw _).trans (hcl 5 _ rfl)
   have q6 : wr.cell? ⟨b,o + j * 7 + 6,none⟩ = some (.slice zA zn zc):=(hcw _).trans (hcl 6 _ rfl)
   have hbr : b < wr.heap.size:=Nat.lt_of_lt_of_le hbl hbw.size
   have HX:=aa (cF (tl:=aV) hx)
   have hle : (PB.enc (aV y)).length <= (PB.encs (kids.map aV)).length:=cL (List.mem_map_of_mem hmem)
   have hll:=HL.out
   have HC:=aa (IH.out y hmem _ wr (FlAt.keep (T:=S) hbw.size (fun x _ hlt => hbw.block x hlt) (fun _ h _ => h) _ _ hfk))
   have hsize : s.size <= 16000000:=by
    have:=cE (kids.map aV) j
    rw [<- List.map_take] at this
    rw [aS HS.out]; omega
   have HNX:=aa fun (x : ByteArray) (hx : x.data.toList = PB.enc (aV y)) => show ¬ 9223372036854775807 < s.size + x.size by rw [aS hx]; omega
   clear hx hc1 hcl hy hle hll hsize hS hcw hbl hbw hbk hfk hmem
   go_wp2_with (first
    | (go_at_call 57; go_must (refine HC.out.mono ?_); rintro e w2 ⟨hb2,x,rfl,hxl⟩; have hnx:=HNX.out x hxl; have HXL:=aa hxl; have HB2:=aa (HBW.out.trans (hb2.mono HBW.out.size)); have HK2:=aa (af HBK.out hb2); clear hb2 hxl)
    | fail)
   go_roundw
   case rel => exact ⟨j + 1,s ++ x,by go_num,rfl,by omega,by unfold Hid; rw [aM,HS.out,HXL.out,HX.out],HB2.out,HK2.out⟩
   case measure => simp [intOf]; omega
  ·have z1 : decide ((j : Int) < (kids.length : Int)) = false:=ae (by omega)
   have HF:=aa (show s.data.toList = PB.encs (kids.map aV) by rw [HS.out,List.take_of_length_le (by omega)])
   clear hbw hbk
   go_wp2_with (first
    | (go_at_call 29; go_must (refine (HT.out s HF.out _).mono ?_); rintro e w2 ⟨hb2,x,rfl,hxl⟩; have HXL:=aa hxl; have HB2:=aa (HBW.out.trans (hb2.mono HBW.out.size)); clear hb2 hxl)
    | fail)
   go_ret
   exact ⟨HB2.out,x,rfl,HXL.out⟩
theorem rfil_has (a v g : ByteArray) (any : List ByteArray) (l : ByteArray) (kids : List Fl) (c : List Value) (S : Nat -> Prop) (w : World) (h : FlAt w S (.mk 7 a v g any l kids) c) (hl : a.data.toList.length < 16000000) :
  Calls Tryz.prog 57 #[.agg c.toArray] w (RefS (PB.enc (town 7 a)) w):=by
 have e0 : PB.enc (town 7 a) = tlvB (bi 2 false 7) a.data.toList:=fg 2 7 a
 rw [e0]
 unfold FlAt at h
 obtain ⟨⟨qA,qn,qc⟩,⟨rA,rn,rc⟩,rfl,-,-,-,-⟩:=h
 simp only
 have HB:=aa ((Below.refl w.heap.size w).alloc (Nat.le_refl _) (.cells #[.int .i64 7,.string a,.string v,.string g,.slice qA qn qc,.string l,.slice rA rn rc] 25))
 have HT:=aa fun (W : World) => cv 2 false 7 _ a _ W rfl (by omega) (by omega) rfl (by omega)
 clear hl e0
 go_enter Tryz.func57,Tryz.ntmps57
 go_wp2_with (first
  | (go_at_call 29; go_must (refine (HT.out _).mono ?_); rintro e w2 ⟨hb2,x,rfl,hxl⟩; have HXL:=aa hxl; have HB2:=aa (HB.out.trans (hb2.mono HB.out.size)); clear hb2 hxl)
  | fail)
 go_ret
 exact ⟨HB2.out,x,rfl,HXL.out⟩
theorem rfil_pair (k : Nat) (a v g : ByteArray) (any : List ByteArray) (l : ByteArray) (kids : List Fl) (c : List Value) (S : Nat -> Prop) (w : World) (h : FlAt w S (.mk k a v g any l kids) c) (hk : 3 <= k /\ k <= 8 /\ k ≠ 4 /\ k ≠ 7) (hl : (PB.enc (.mk 2 true k ⟨#[]⟩ [tstr a,tstr v])).length < 16000000) :
  Calls Tryz.prog 57 #[.agg c.toArray] w (RefS (PB.enc (.mk 2 true k ⟨#[]⟩ [tstr a,tstr v])) w):=by
 have e0 : PB.enc (.mk 2 true k ⟨#[]⟩ [tstr a,tstr v]) = tlvB (bi 2 true k) (tlvB 4 a.data.toList ++ tlvB 4 v.data.toList):=by
  rw [show (PB.enc (.mk 2 true k ⟨#[]⟩ [tstr a,tstr v])) = _ from dH 2 k _,PB.encs,dq,PB.encs,dq,PB.encs,List.append_nil]
 rw [e0] at hl |-
 have u0:=bC (bi 2 true k) (tlvB 4 a.data.toList ++ tlvB 4 v.data.toList)
 rw [List.length_append] at u0
 have u1:=bC 4 a.data.toList
 have u2:=bC 4 v.data.toList
 have u3 : a.size = a.data.toList.length:=rfl
 have u4 : v.size = v.data.toList.length:=rfl
 unfold FlAt at h
 obtain ⟨⟨qA,qn,qc⟩,⟨rA,rn,rc⟩,rfl,-,-,-,-⟩:=h
 simp only
 obtain ⟨wa,hwa⟩ : ∃ W,W = w.alloc (.cells #[.int .i64 k,.string a,.string v,.string g,.slice qA qn qc,.string l,.slice rA rn rc] 25):=⟨_,rfl⟩
 have hba : Below w.heap.size w wa:=by rw [hwa]; exact (Below.refl w.heap.size w).alloc (Nat.le_refl _) _
 have hka : Bk wa w.heap.size 25 #[.int .i64 k,.string a,.string v,.string g,.slice qA qn qc,.string l,.slice rA rn rc]:=by rw [hwa]; exact Bk.new w _ _
 have HB:=aa hba
 have HW1:=aa hwa
 have H1:=aa fun W => dd a W (by omega)
 have H2:=aa fun W => dd v W (by omega)
 have H3:=aa fun (s : ByteArray) (h : s.data.toList = tlvB 4 a.data.toList ++ tlvB 4 v.data.toList) (W : World) => cv 2 true k _ s _ W rfl (by omega) (by omega) h (by rw [List.length_append]; omega)
 have HNX:=aa (show ∀ x y : ByteArray,x.data.toList = tlvB 4 a.data.toList -> y.data.toList = tlvB 4 v.data.toList -> ¬ 9223372036854775807 < x.size + y.size from fun x y hx hy => by rw [aS hx,aS hy]; omega)
 have HKS:=aa fun (W : World) (hb : Below wa.heap.size wa W) => (show W.cell? ⟨w.heap.size,0,none⟩ = some (.int .i64 k) /\ W.cell? ⟨w.heap.size,1,none⟩ = some (.string a) /\ W.cell? ⟨w.heap.size,2,none⟩ = some (.string v) from ⟨(af hka hb).cell 0,(af hka hb).cell 1,(af hka hb).cell 2⟩)
 have HBR:=aa (Below.refl wa.heap.size wa).drew
 have p0 : wa.cell? ⟨w.heap.size,0,none⟩ = some (.int .i64 k):=hka.cell 0
 have l1:=hka.lt
 have t1 : decide ((k : Int) <= 2) = false:=ae (by omega)
 have t2 : ((k : Int) == 7) = false:=by simp; omega
 have t3 : ((k : Int) != 4) = true:=by simp; omega
 have t4 : ((k : Int) == 4) = false:=by simp; omega
 clear hl e0 u0 u1 u2 u3 u4 hwa hba hka hk
 go_enter Tryz.func57,Tryz.ntmps57
 go_wp2_with fail
 rw [<- HW1.out]
 go_region_held3 (fun W => W.cell? ⟨w.heap.size,0,none⟩ = some (.int .i64 k) /\ W.cell? ⟨w.heap.size,1,none⟩ = some (.string a) /\ W.cell? ⟨w.heap.size,2,none⟩ = some (.string v))
  (first | (with_reducible exact HKS.out _ HBR.out) | (with_reducible exact HKS.out _ (by assumption)))
  (first
   | (go_at_call 26; (with_reducible refine (H1.out _).mono ?_); rintro e w2 ⟨hb2,x,rfl,hx⟩; have hn2:=aj HBR.out hb2; have HX:=aa hx)
   | (go_at_call 26; (with_reducible refine (H2.out _).mono ?_); rintro e w3 ⟨hb3,y,rfl,hy⟩; have hn3:=aj hn2 hb3; have hnx:=HNX.out x y HX.out hy; have HY:=aa (show (x ++ y).data.toList = tlvB 4 a.data.toList ++ tlvB 4 v.data.toList by rw [aM,HX.out,hy]))
   | (go_at_call 29; (refine (H3.out (x ++ y) HY.out _).mono ?_); rintro e w4 ⟨hb4,z,rfl,hz⟩; have hn4:=aj hn3 hb4; have HZ:=aa hz)
   | fail)
 all_goals
  have HB4:=aa (HB.out.trans (hn4.mono HB.out.size))
  go_wp2_with fail
  go_ret
  exact ⟨HB4.out,z,rfl,HZ.out⟩
def cg (k : Nat) (g : ByteArray) : List UInt8:=PB.encs (if ai g then [town k g] else [])
theorem dt (g : ByteArray) (any : List ByteArray) (l : ByteArray) : PB.encs (aB g any l) = cg 0 g ++ (PB.encs (any.map (town 1)) ++ cg 2 l):=by
 unfold aB cg
 rw [PB.encs_app,PB.encs_app]
 rfl
theorem bS {k : Nat} {g : ByteArray} (h : ai g = true) : cg k g = tlvB (bi 2 false k) g.data.toList:=by
 unfold cg
 rw [if_pos h,PB.encs,PB.encs,List.append_nil]
 exact fg 2 k g
theorem fw {k : Nat} {g : ByteArray} (h : ai g = false) : cg k g = []:=by
 unfold cg
 rw [if_neg (by rw [h]; simp)]
 rfl
theorem rfil_part (a v g : ByteArray) (any : List ByteArray) (l : ByteArray) (kids : List Fl) (c : List Value) (S : Nat -> Prop) (w : World) (h : FlAt w S (.mk 4 a v g any l kids) c) (hn : any.length <= 1000000) (hl : (PB.enc (.mk 2 true 4 ⟨#[]⟩ [tstr a,aF (aB g any l)])).length < 16000000) :
  Calls Tryz.prog 57 #[.agg c.toArray] w (RefS (PB.enc (.mk 2 true 4 ⟨#[]⟩ [tstr a,aF (aB g any l)])) w):=by
 have e0 : PB.enc (.mk 2 true 4 ⟨#[]⟩ [tstr a,aF (aB g any l)]) = tlvB (bi 2 true 4) (tlvB 4 a.data.toList ++ tlvB 48 (PB.encs (aB g any l))):=by
  rw [show (PB.enc (.mk 2 true 4 ⟨#[]⟩ [tstr a,aF (aB g any l)])) = _ from dH 2 4 _,PB.encs,dq,PB.encs,enc_list,PB.encs,List.append_nil]
 rw [e0] at hl |-
 have u0:=bC (bi 2 true 4) (tlvB 4 a.data.toList ++ tlvB 48 (PB.encs (aB g any l)))
 rw [List.length_append] at u0
 have u1:=bC 4 a.data.toList
 have u2:=bC 48 (PB.encs (aB g any l))
 have u3 : a.size = a.data.toList.length:=rfl
 have u5 : (PB.encs (aB g any l)).length = (cg 0 g).length + ((PB.encs (any.map (town 1))).length + (cg 2 l).length):=by rw [dt,List.length_append,List.length_append]
 unfold FlAt at h
 obtain ⟨⟨qA,qn,qc⟩,⟨rA,rn,rc⟩,rfl,-,⟨hq1,hq2,hq3,hq4⟩,-,-⟩:=h
 simp only at hq1 hq2 hq3 hq4 |-
 subst hq1
 obtain ⟨wa,hwa⟩ : ∃ W,W = w.alloc (.cells #[.int .i64 4,.string a,.string v,.string g,.slice qA any.length qc,.string l,.slice rA rn rc] 25):=⟨_,rfl⟩
 have hba : Below w.heap.size w wa:=by rw [hwa]; exact (Below.refl w.heap.size w).alloc (Nat.le_refl _) _
 have hka : Bk wa w.heap.size 25 #[.int .i64 4,.string a,.string v,.string g,.slice qA any.length qc,.string l,.slice rA rn rc]:=by rw [hwa]; exact Bk.new w _ _
 have HB:=aa hba
 have HKA:=aa hka
 have HW1:=aa hwa
 have hqm : qc <= 9223372036854775807:=by unfold maxLen at hq3; omega
 have HQ:=aa hq4
 have HU:=aa (And.intro u0 (And.intro u1 (And.intro u2 (And.intro u3 (And.intro u5 hl)))))
 have H1:=aa fun W => dd a W (by omega)
 have H2:=aa fun (s : ByteArray) (h : s.data.toList = PB.encs (aB g any l)) (W : World) => rlist_at s _ W h (by omega)
 have H3:=aa fun (s : ByteArray) (h : s.data.toList = tlvB 4 a.data.toList ++ tlvB 48 (PB.encs (aB g any l))) (W : World) => cv 2 true 4 _ s _ W rfl (by omega) (by omega) h (by rw [List.length_append]; omega)
 have HNX:=aa (show ∀ x y : ByteArray,x.data.toList = tlvB 4 a.data.toList -> y.data.toList = tlvB 48 (PB.encs (aB g any l)) -> ¬ 9223372036854775807 < x.size + y.size from fun x y hx hy => by rw [aS hx,aS hy]; omega)
 clear hl e0 u0 u1 u2 u3 u5 hwa hba hka hq4 hq3
 go_enter Tryz.func57,Tryz.ntmps57
 cases hf : ai g
 ·have y1:=(aC hf).1
  have HS0:=aa (show (⟨#[]⟩ : ByteArray).data.toList = cg 0 g by rw [fw hf])
  have HB0:=HB
  have HK0:=HKA
  clear hf
  go_wp2_with fail
  rw [<- HW1.out]
  clear y1
  go_loopw [3,5] (fun u i wr => ∃ (j : Nat) (s : ByteArray),i = .int .i64 j /\ u = .string s /\ j <= any.length /\ Hid (s.data.toList = cg 0 g ++ PB.encs ((any.take j).map (town 1))) /\ Below w.heap.size w wr /\ Bk wr w.heap.size 25 #[.int .i64 4,.string a,.string v,.string g,.slice qA any.length qc,.string l,.slice rA rn rc]) (fun _ i _ => any.length - (intOf i).toNat)
  case atStart => exact ⟨0,_,rfl,rfl,Nat.zero_le _,by unfold Hid; simp only [List.take_zero,List.map_nil,PB.encs,List.append_nil]; exact HS0.out,HB0.out,HK0.out⟩
  case round =>
   obtain ⟨j,s,rfl,rfl,hj,HS,hbw,hbk⟩:=hrel
   have HBW:=aa hbw
   have HBK:=aa hbk
   have p1 : wr.cell? ⟨w.heap.size,1,none⟩ = some (.string a):=hbk.cell 1
   have p4 : wr.cell? ⟨w.heap.size,4,none⟩ = some (.slice qA any.length qc):=hbk.cell 4
   have p5 : wr.cell? ⟨w.heap.size,5,none⟩ = some (.string l):=hbk.cell 5
   have l1:=hbk.lt
   have hsize : s.size <= 16000000:=by
    have:=cE (any.map (town 1)) j
    rw [<- List.map_take] at this
    have hu:=HU.out
    rw [aS HS.out,List.length_append]; omega
   by_cases hlt : j < any.length
   ·have z1 : decide ((j : Int) < (any.length : Int)) = true:=ab (by omega)
    have hx : any[j]? = some any[j]:=List.getElem?_eq_getElem hlt
    obtain ⟨b,o,c,rfl,hS,hcl,hc,hat,hsz⟩:=HQ.out j any[j] hx
    subst hat
    have q0 : wr.cell? ⟨b,o + j,none⟩ = some (.string any[j]):=by have:=hc 0 _ rfl; rw [Nat.mul_one,Nat.add_zero] at this; exact (hbw.cell (p:=⟨b,o + j,none⟩) hS.2).trans this
    have hb1 : b < wr.heap.size:=Nat.lt_of_lt_of_le hS.2 hbw.size
    have hmem:=List.getElem_mem hlt
    obtain ⟨t,ht⟩ : ∃ t,t = any[j]:=⟨_,rfl⟩
    rw [<- ht] at q0 hx hmem
    have HX:=aa (cF (tl:=town 1) hx)
    have hle : (PB.enc (town 1 t)).length <= (PB.encs (any.map (town 1))).length:=cL (List.mem_map_of_mem hmem)
    have HE:=aa (show PB.enc (town 1 t) = tlvB (bi 2 false 1) t.data.toList from fg 2 1 t)
    rw [HE.out] at hle
    have hhu:=HU.out
    have htl:=bC (bi 2 false 1) t.data.toList
    have HC:=aa (cv 2 false 1 _ t _ wr rfl (by omega) (by omega) rfl (by omega))
    have HNX1:=aa fun (x : ByteArray) (hx : x.data.toList = tlvB (bi 2 false 1) t.data.toList) => show ¬ 9223372036854775807 < s.size + x.size by rw [aS hx]; omega
    clear hx hc ht hle hhu htl hsize hS hcl hbw hbk hmem hsz
    go_wp2_with (first
     | (go_at_call 29; go_must (refine HC.out.mono ?_); rintro e w2 ⟨hb2,x,rfl,hxl⟩; have hnx:=HNX1.out x hxl; have HXL:=aa hxl; have HB2:=aa (HBW.out.trans (hb2.mono HBW.out.size)); have HK2:=aa (af HBK.out hb2); clear hb2 hxl)
     | fail)
    go_roundw
    case rel => exact ⟨j + 1,s ++ x,by go_num,rfl,by omega,by unfold Hid; rw [aM,HS.out,HXL.out,HX.out,HE.out,List.append_assoc],HB2.out,HK2.out⟩
    case measure => simp [intOf]; omega
   ·have z1 : decide ((j : Int) < (any.length : Int)) = false:=ae (by omega)
    have HF9:=aa (show s.data.toList = cg 0 g ++ PB.encs (any.map (town 1)) by rw [HS.out,List.take_of_length_le (by omega)])
    cases hf : ai l
    ·have y1:=(aC hf).1
     have HS3:=aa (show s.data.toList = PB.encs (aB g any l) by rw [HF9.out,dt,fw hf,List.append_nil])
     clear hf hbw hbk hsize
     go_wp2_with fail
     clear y1 p4 p5 z1 hlt
     obtain ⟨wx,rfl⟩ : ∃ W,W = wr:=⟨_,rfl⟩
     have HB3:=HBW
     have HK3:=HBK
     have l5:=HK3.out.lt
     go_wp2_with (first
      | (go_at_call 26; go_must (refine (H1.out _).mono ?_); rintro e w5 ⟨hb5,y,rfl,hy⟩; have hn5:=hb5; have HY:=aa hy; clear hb5 hy)
      | (go_at_call 28; go_must (refine (H2.out s HS3.out _).mono ?_); rintro e w6 ⟨hb6,z,rfl,hz⟩; have hn6:=aj hn5 hb6; have hnx:=HNX.out y z HY.out hz; have HZ:=aa (show (y ++ z).data.toList = tlvB 4 a.data.toList ++ tlvB 48 (PB.encs (aB g any l)) by rw [aM,HY.out,hz]); clear hb6 hz)
      | (go_at_call 29; go_must (refine (H3.out (y ++ z) HZ.out _).mono ?_); rintro e w7 ⟨hb7,r,rfl,hr⟩; have HB7:=aa (HB3.out.trans ((aj hn6 hb7).mono HB3.out.size)); have HR:=aa hr; clear hb7 hr)
      | fail)
     go_ret
     exact ⟨HB7.out,r,rfl,HR.out⟩
    ·have y1:=aQ hf
     have HFF:=aa hf
     have HT:=aa (cv 2 false 2 _ l _ wr rfl (by omega) (by omega) rfl (by
      have h1:=HU.out
      rw [bS (k:=2) HFF.out] at h1
      have h2:=bC (bi 2 false 2) l.data.toList
      omega))
     have HNX1:=aa fun (x : ByteArray) (hx : x.data.toList = tlvB (bi 2 false 2) l.data.toList) => show ¬ 9223372036854775807 < s.size + x.size by
      have h1:=HU.out
      rw [bS (k:=2) HFF.out] at h1
      rw [aS hx]; omega
     clear hf hbw hbk hsize
     go_wp2_with (first
      | (go_at_call 29; go_must (refine HT.out.mono ?_); rintro e wx ⟨hb2,x,rfl,hxl⟩; have hnx:=HNX1.out x hxl; have HS3:=aa (show (s ++ x).data.toList = PB.encs (aB g any l) by rw [aM,HF9.out,hxl,dt,bS (k:=2) HFF.out,List.append_assoc]); have HB3:=aa (HBW.out.trans (hb2.mono HBW.out.size)); have HK3:=aa (af HBK.out hb2); have p1':=HK3.out.cell 1; have l1':=HK3.out.lt; clear hb2 hxl)
      | fail)
     clear y1 p4 p5 z1 hlt p1 l1 hnx
     generalize s ++ x = s at HS3 |-
     have l5:=HK3.out.lt
     go_wp2_with (first
      | (go_at_call 26; go_must (refine (H1.out _).mono ?_); rintro e w5 ⟨hb5,y,rfl,hy⟩; have hn5:=hb5; have HY:=aa hy; clear hb5 hy)
      | (go_at_call 28; go_must (refine (H2.out s HS3.out _).mono ?_); rintro e w6 ⟨hb6,z,rfl,hz⟩; have hn6:=aj hn5 hb6; have hnx:=HNX.out y z HY.out hz; have HZ:=aa (show (y ++ z).data.toList = tlvB 4 a.data.toList ++ tlvB 48 (PB.encs (aB g any l)) by rw [aM,HY.out,hz]); clear hb6 hz)
      | (go_at_call 29; go_must (refine (H3.out (y ++ z) HZ.out _).mono ?_); rintro e w7 ⟨hb7,r,rfl,hr⟩; have HB7:=aa (HB3.out.trans ((aj hn6 hb7).mono HB3.out.size)); have HR:=aa hr; clear hb7 hr)
      | fail)
     go_ret
     exact ⟨HB7.out,r,rfl,HR.out⟩
 ·have y1:=aQ hf
  have HF:=aa hf
  have HT:=aa fun (W : World) => cv 2 false 0 _ g _ W rfl (by omega) (by omega) rfl (by
   have h1:=HU.out
   rw [bS HF.out] at h1
   have h2:=bC (bi 2 false 0) g.data.toList
   omega)
  clear hf
  go_wp2_with (first
   | (go_at_call 29; go_must (refine (HT.out _).mono ?_); rintro e w2 ⟨hb2,x,rfl,hxl⟩; rw [<- HW1.out] at hb2; have HS0:=aa (show x.data.toList = cg 0 g by rw [bS HF.out]; exact hxl); have HB0:=aa (HB.out.trans (hb2.mono HB.out.size)); have HK0:=aa (af HKA.out hb2); clear hb2 hxl)
   | fail)
  clear y1
  go_loopw [3,5] (fun u i wr => ∃ (j : Nat) (s : ByteArray),i = .int .i64 j /\ u = .string s /\ j <= any.length /\ Hid (s.data.toList = cg 0 g ++ PB.encs ((any.take j).map (town 1))) /\ Below w.heap.size w wr /\ Bk wr w.heap.size 25 #[.int .i64 4,.string a,.string v,.string g,.slice qA any.length qc,.string l,.slice rA rn rc]) (fun _ i _ => any.length - (intOf i).toNat)
  case atStart => exact ⟨0,_,rfl,rfl,Nat.zero_le _,by unfold Hid; simp only [List.take_zero,List.map_nil,PB.encs,List.append_nil]; exact HS0.out,HB0.out,HK0.out⟩
  case round =>
   obtain ⟨j,s,rfl,rfl,hj,HS,hbw,hbk⟩:=hrel
   have HBW:=aa hbw
   have HBK:=aa hbk
   have p1 : wr.cell? ⟨w.heap.size,1,none⟩ = some (.string a):=hbk.cell 1
   have p4 : wr.cell? ⟨w.heap.size,4,none⟩ = some (.slice qA any.length qc):=hbk.cell 4
   have p5 : wr.cell? ⟨w.heap.size,5,none⟩ = some (.string l):=hbk.cell 5
   have l1:=hbk.lt
   have hsize : s.size <= 16000000:=by
    have:=cE (any.map (town 1)) j
    rw [<- List.map_take] at this
    have hu:=HU.out
    rw [aS HS.out,List.length_append]; omega
   by_cases hlt : j < any.length
   ·have z1 : decide ((j : Int) < (any.length : Int)) = true:=ab (by omega)
    have hx : any[j]? = some any[j]:=List.getElem?_eq_getElem hlt
    obtain ⟨b,o,c,rfl,hS,hcl,hc,hat,hsz⟩:=HQ.out j any[j] hx
    subst hat
    have q0 : wr.cell? ⟨b,o + j,none⟩ = some (.string any[j]):=by have:=hc 0 _ rfl; rw [Nat.mul_one,Nat.add_zero] at this; exact (hbw.cell (p:=⟨b,o + j,none⟩) hS.2).trans this
    have hb1 : b < wr.heap.size:=Nat.lt_of_lt_of_le hS.2 hbw.size
    have hmem:=List.getElem_mem hlt
    obtain ⟨t,ht⟩ : ∃ t,t = any[j]:=⟨_,rfl⟩
    rw [<- ht] at q0 hx hmem
    have HX:=aa (cF (tl:=town 1) hx)
    have hle : (PB.enc (town 1 t)).length <= (PB.encs (any.map (town 1))).length:=cL (List.mem_map_of_mem hmem)
    have HE:=aa (show PB.enc (town 1 t) = tlvB (bi 2 false 1) t.data.toList from fg 2 1 t)
    rw [HE.out] at hle
    have hhu:=HU.out
    have htl:=bC (bi 2 false 1) t.data.toList
    have HC:=aa (cv 2 false 1 _ t _ wr rfl (by omega) (by omega) rfl (by omega))
    have HNX1:=aa fun (x : ByteArray) (hx : x.data.toList = tlvB (bi 2 false 1) t.data.toList) => show ¬ 9223372036854775807 < s.size + x.size by rw [aS hx]; omega
    clear hx hc ht hle hhu htl hsize hS hcl hbw hbk hmem hsz
    go_wp2_with (first
     | (go_at_call 29; go_must (refine HC.out.mono ?_); rintro e w2 ⟨hb2,x,rfl,hxl⟩; have hnx:=HNX1.out x hxl; have HXL:=aa hxl; have HB2:=aa (HBW.out.trans (hb2.mono HBW.out.size)); have HK2:=aa (af HBK.out hb2); clear hb2 hxl)
     | fail)
    go_roundw
    case rel => exact ⟨j + 1,s ++ x,by go_num,rfl,by omega,by unfold Hid; rw [aM,HS.out,HXL.out,HX.out,HE.out,List.append_assoc],HB2.out,HK2.out⟩
    case measure => simp [intOf]; omega
   ·have z1 : decide ((j : Int) < (any.length : Int)) = false:=ae (by omega)
    have HF9:=aa (show s.data.toList = cg 0 g ++ PB.encs (any.map (town 1)) by rw [HS.out,List.take_of_length_le (by omega)])
    cases hf : ai l
    ·have y1:=(aC hf).1
     have HS3:=aa (show s.data.toList = PB.encs (aB g any l) by rw [HF9.out,dt,fw hf,List.append_nil])
     clear hf hbw hbk hsize
     go_wp2_with fail
     clear y1 p4 p5 z1 hlt
     obtain ⟨wx,rfl⟩ : ∃ W,W = wr:=⟨_,rfl⟩
     have HB3:=HBW
     have HK3:=HBK
     have l5:=HK3.out.lt
     go_wp2_with (first
      | (go_at_call 26; go_must (refine (H1.out _).mono ?_); rintro e w5 ⟨hb5,y,rfl,hy⟩; have hn5:=hb5; have HY:=aa hy; clear hb5 hy)
      | (go_at_call 28; go_must (refine (H2.out s HS3.out _).mono ?_); rintro e w6 ⟨hb6,z,rfl,hz⟩; have hn6:=aj hn5 hb6; have hnx:=HNX.out y z HY.out hz; have HZ:=aa (show (y ++ z).data.toList = tlvB 4 a.data.toList ++ tlvB 48 (PB.encs (aB g any l)) by rw [aM,HY.out,hz]); clear hb6 hz)
      | (go_at_call 29; go_must (refine (H3.out (y ++ z) HZ.out _).mono ?_); rintro e w7 ⟨hb7,r,rfl,hr⟩; have HB7:=aa (HB3.out.trans ((aj hn6 hb7).mono HB3.out.size)); have HR:=aa hr; clear hb7 hr)
      | fail)
     go_ret
     exact ⟨HB7.out,r,rfl,HR.out⟩
    ·have y1:=aQ hf
     have HFF:=aa hf
     have HT:=aa (cv 2 false 2 _ l _ wr rfl (by omega) (by omega) rfl (by
      have h1:=HU.out
      rw [bS (k:=2) HFF.out] at h1
      have h2:=bC (bi 2 false 2) l.data.toList
      omega))
     have HNX1:=aa fun (x : ByteArray) (hx : x.data.toList = tlvB (bi 2 false 2) l.data.toList) => show ¬ 9223372036854775807 < s.size + x.size by
      have h1:=HU.out
      rw [bS (k:=2) HFF.out] at h1
      rw [aS hx]; omega
     clear hf hbw hbk hsize
     go_wp2_with (first
      | (go_at_call 29; go_must (refine HT.out.mono ?_); rintro e wx ⟨hb2,x,rfl,hxl⟩; have hnx:=HNX1.out x hxl; have HS3:=aa (show (s ++ x).data.toList = PB.encs (aB g any l) by rw [aM,HF9.out,hxl,dt,bS (k:=2) HFF.out,List.append_assoc]); have HB3:=aa (HBW.out.trans (hb2.mono HBW.out.size)); have HK3:=aa (af HBK.out hb2); have p1':=HK3.out.cell 1; have l1':=HK3.out.lt; clear hb2 hxl)
      | fail)
     clear y1 p4 p5 z1 hlt p1 l1 hnx
     generalize s ++ x = s at HS3 |-
     have l5:=HK3.out.lt
     go_wp2_with (first
      | (go_at_call 26; go_must (refine (H1.out _).mono ?_); rintro e w5 ⟨hb5,y,rfl,hy⟩; have hn5:=hb5; have HY:=aa hy; clear hb5 hy)
      | (go_at_call 28; go_must (refine (H2.out s HS3.out _).mono ?_); rintro e w6 ⟨hb6,z,rfl,hz⟩; have hn6:=aj hn5 hb6; have hnx:=HNX.out y z HY.out hz; have HZ:=aa (show (y ++ z).data.toList = tlvB 4 a.data.toList ++ tlvB 48 (PB.encs (aB g any l)) by rw [aM,HY.out,hz]); clear hb6 hz)
      | (go_at_call 29; go_must (refine (H3.out (y ++ z) HZ.out _).mono ?_); rintro e w7 ⟨hb7,r,rfl,hr⟩; have HB7:=aa (HB3.out.trans ((aj hn6 hb7).mono HB3.out.size)); have HR:=aa hr; clear hb7 hr)
      | fail)
     go_ret
     exact ⟨HB7.out,r,rfl,HR.out⟩
def REnc (f : Fl) : Prop:=∀ (c : List Value) (S : Nat -> Prop) (W : World),FlAt W S f c -> Calls Tryz.prog 57 #[.agg c.toArray] W (RefS (PB.enc (aV f)) W)
theorem Fl.one_kind {k : Int} {a v f : ByteArray} {any : List ByteArray} {l : ByteArray} {kids : List Fl} (h : Fl.one (.mk k a v f any l kids) = true) : 0 <= k /\ k <= 8:=by
 rw [Fl.one_mk] at h
 by_cases h0 : k = 0 \/ k = 1
 ·omega
 rw [if_neg h0] at h
 by_cases h2 : k = 2
 ·omega
 rw [if_neg h2] at h
 by_cases h3 : k = 3 \/ k = 5 \/ k = 6 \/ k = 8
 ·omega
 rw [if_neg h3] at h
 by_cases h7 : k = 7
 ·omega
 rw [if_neg h7] at h
 by_cases h4 : k = 4
 ·omega
 rw [if_neg h4] at h
 cases h
theorem bg (c g : Int) (ks : List Tl) : (PB.encs ks).length <= (PB.enc (.mk c true g ⟨#[]⟩ ks)).length:=by
 unfold PB.enc
 rw [if_pos rfl]
 simp only [List.length_cons,List.length_append]
 omega
theorem leaf_sz (c g : Int) (s : ByteArray) : s.data.toList.length <= (PB.enc (.mk c false g s [])).length:=by
 unfold PB.enc
 rw [if_neg (by decide)]
 simp only [List.length_cons,List.length_append]
 omega
mutual
theorem rfil_any : ∀ (f : Fl) (e x : Int),0 <= f.cnt e x -> f.slim -> (PB.enc (aV f)).length < 16000000 -> REnc f
 | .mk k a v g any l kids,e,x,hr,hs,hl => by
  have ih:=rfils_any kids
  unfold Fl.cnt at hr
  by_cases hn : x - 1 < 0 \/ 8 < e \/ Fl.one (.mk k a v g any l kids) = false
  ·rw [if_pos hn] at hr; omega
  rw [if_neg hn] at hr
  have ho : Fl.one (.mk k a v g any l kids) = true:=by
   cases ho : Fl.one (.mk k a v g any l kids) with
   | true => rfl
   | false => exact absurd (.inr (.inr ho)) hn
  have hk:=Fl.one_kind ho
  unfold Fl.slim at hs
  obtain ⟨s1,s2,s3⟩:=hs
  intro c S W h
  obtain ⟨k',rfl⟩ : ∃ k' : Nat,k = k':=⟨k.toNat,by omega⟩
  unfold aV at hl |-
  by_cases h2 : (k' : Int) = 0 \/ (k' : Int) = 1 \/ (k' : Int) = 2
  ·rw [if_pos h2,ftrees_map] at hl |-
   have hl2:=bg 2 k' (kids.map aV)
   rw [show PB.enc (.mk 2 true (k' : Int) ⟨#[]⟩ (kids.map aV)) = _ from dH 2 k' _]
   exact rfil_many k' a v g any l kids c S W h (by omega) s2 (by omega) fun y hy c2 W2 h2 => ih y hy (e + 1) (x - 1) hr s3 (by omega) c2 S W2 h2
  rw [if_neg h2] at hl |-
  by_cases h7 : (k' : Int) = 7
  ·rw [if_pos h7] at hl |-
   obtain rfl : k' = 7:=by omega
   refine rfil_has a v g any l kids c S W h ?_
   have:=leaf_sz 2 7 a
   unfold town at hl
   omega
  rw [if_neg h7] at hl |-
  by_cases h4 : (k' : Int) = 4
  ·rw [if_pos h4] at hl |-
   obtain rfl : k' = 4:=by omega
   exact rfil_part a v g any l kids c S W h s1 hl
  rw [if_neg h4] at hl |-
  exact rfil_pair k' a v g any l kids c S W h (by omega) hl
theorem rfils_any : ∀ (ks : List Fl),∀ y ∈ ks,∀ (e x : Int),0 <= Fl.cnts ks e x -> Fl.slims ks -> (PB.encs (ks.map aV)).length < 16000000 -> REnc y
 | [],y,h => by simp at h
 | k :: ks,y,h => fun e x hr hs hl => by
  have h1:=rfil_any k
  have h2:=rfils_any ks
  unfold Fl.cnts at hr
  unfold Fl.slims at hs
  rw [List.map_cons,PB.encs,List.length_append] at hl
  by_cases hc : k.cnt e x < 0
  ·rw [if_pos hc] at hr; omega
  rw [if_neg hc] at hr
  rcases List.mem_cons.1 h with rfl | h
  ·exact h1 e x (by omega) hs.1 (by omega)
  ·exact h2 y h e _ hr hs.2 (by omega)
end
def wS (l : List ByteArray) : Nat:=(l.map fun s => 1 + s.size).sum
def atW (a : At) : Nat:=1 + a.1.size + wS a.2
def mdW (a : Md) : Nat:=1 + a.2.1.size + wS a.2.2
def coW (a : Co) : Nat:=1 + a.1.size + a.2.2.2.size
def wA (l : List At) : Nat:=(l.map atW).sum
def wM (l : List Md) : Nat:=(l.map mdW).sum
def wC (l : List Co) : Nat:=(l.map coW).sum
mutual
def Fl.wt : Fl -> Nat
 | .mk _ a v g any l kids => 1 + a.size + v.size + g.size + l.size + wS any + Fl.wts kids
def Fl.wts : List Fl -> Nat
 | [] => 0
 | k :: ks => k.wt + Fl.wts ks
end
def Ms.wt (M : Ms) : Nat:=M.name.size + M.secret.size + M.kind.size + M.value.size + M.text.size + M.rdn.size + wS M.attrs + wS M.dest + wA M.list + wM M.mods + wC M.controls
theorem fb : ∀ (l : List ByteArray),l.length <= wS l
 | [] => Nat.zero_le _
 | s :: l => by
  have:=fb l
  simp only [wS,List.map_cons,List.sum_cons,List.length_cons] at this |-
  omega
theorem eS {α : Type} (f : α -> Nat) (hf : ∀ a,1 <= f a) : ∀ (l : List α),l.length <= (l.map f).sum
 | [] => Nat.zero_le _
 | s :: l => by
  have:=eS f hf l
  have:=hf s
  simp only [List.map_cons,List.sum_cons,List.length_cons]
  omega
theorem wsum_mem {α : Type} (f : α -> Nat) {a : α} : ∀ {l : List α},a ∈ l -> f a <= (l.map f).sum
 | [],h => by cases h
 | s :: l,h => by
  simp only [List.map_cons,List.sum_cons]
  rcases List.mem_cons.1 h with rfl | h
  ·omega
  ·have:=wsum_mem f h; omega
theorem Ms.wt_small {M : Ms} (h : M.wt <= 40000) : M.small:=by
 unfold Ms.wt at h
 have h1:=fb M.attrs
 have h2:=fb M.dest
 have h3:=eS atW (fun a => by unfold atW; omega) M.list
 have h4:=eS mdW (fun a => by unfold mdW; omega) M.mods
 have h5:=eS coW (fun a => by unfold coW; omega) M.controls
 have e3 : wA M.list = (M.list.map atW).sum:=rfl
 have e4 : wM M.mods = (M.mods.map mdW).sum:=rfl
 have e5 : wC M.controls = (M.controls.map coW).sum:=rfl
 refine ⟨by omega,by omega,⟨by omega,fun a ha => ?_⟩,⟨by omega,fun a ha => ?_⟩,by omega⟩
 ·have h6:=wsum_mem atW ha
  have h7:=fb a.2
  have h8 : atW a = 1 + a.1.size + wS a.2:=rfl
  omega
 ·have h6:=wsum_mem mdW ha
  have h7:=fb a.2.2
  have h8 : mdW a = 1 + a.2.1.size + wS a.2.2:=rfl
  omega
theorem ofRun_len : ∀ (k : Nat) (l : List UInt8) (m : Int),(PB.ofRun k l m).length <= l.length + k
 | 0,l,m => by unfold PB.ofRun; omega
 | k + 1,l,m => by
  unfold PB.ofRun
  split
  ·omega
  ·have:=ofRun_len k (PB.low m :: l) (m / 256)
   simp only [List.length_cons] at this
   omega
theorem fC (n : Int) : (PB.ofNum n).length <= 9:=by
 have:=ofRun_len 8 [PB.low n] (n / 256)
 simpa [PB.ofNum] using this
theorem dp (c g : Int) (s : ByteArray) : (PB.enc (.mk c false g s [])).length <= 5 + s.size:=by
 unfold PB.enc
 rw [if_neg (by decide)]
 have h1:=(PB.lenB_len s.size).2
 have e : s.data.toList.length = s.size:=rfl
 simp only [List.length_cons,List.length_append,e]
 omega
theorem cz (c g : Int) (ks : List Tl) : (PB.enc (.mk c true g ⟨#[]⟩ ks)).length <= 5 + (PB.encs ks).length:=by
 unfold PB.enc
 rw [if_pos rfl]
 have h1:=(PB.lenB_len (PB.encs ks).length).2
 simp only [List.length_cons,List.length_append]
 omega
theorem ag (k : Tl) (ks : List Tl) : (PB.encs (k :: ks)).length = (PB.enc k).length + (PB.encs ks).length:=by
 rw [PB.encs,List.length_append]
theorem aq : (PB.encs []).length = 0:=by simp [PB.encs]
theorem aL (a b : List Tl) : (PB.encs (a ++ b)).length = (PB.encs a).length + (PB.encs b).length:=by rw [PB.encs_app,List.length_append]
theorem bW {α : Type} (f : α -> Tl) (wt : α -> Nat) (K : Nat) (h : ∀ a,(PB.enc (f a)).length <= K * wt a) : ∀ (l : List α),(PB.encs (l.map f)).length <= K * (l.map wt).sum
 | [] => by simp [PB.encs]
 | a :: l => by
  have h1:=bW f wt K h l
  have h2:=h a
  rw [List.map_cons,ag,List.map_cons,List.sum_cons,Nat.mul_add]
  omega
theorem bG (s : ByteArray) : (PB.enc (tstr s)).length <= 5 + s.size:=dp 0 4 s
theorem cx (g n : Int) : (PB.enc (tnum g n)).length <= 14:=by
 have h:=dp 0 g ⟨(PB.ofNum n).toArray⟩
 have h2:=fC n
 have e : (⟨(PB.ofNum n).toArray⟩ : ByteArray).size = (PB.ofNum n).length:=rfl
 rw [e] at h
 unfold tnum
 omega
theorem fp (q : Bool) : (PB.enc (bu q)).length <= 6:=by
 have h:=dp 0 1 (boolB q)
 have e : (boolB q).size = 1:=by cases q <;> rfl
 unfold bu
 omega
theorem cK (g : Int) (s : ByteArray) : (PB.enc (town g s)).length <= 5 + s.size:=dp 2 g s
theorem bV (ks : List Tl) : (PB.enc (aF ks)).length <= 5 + (PB.encs ks).length:=cz 0 16 ks
theorem tstrs_len (l : List ByteArray) : (PB.encs (l.map tstr)).length <= 5 * wS l:=bW tstr (fun s => 1 + s.size) 5 (fun s => by have:=bG s; omega) l
theorem towns_len (g : Int) (l : List ByteArray) : (PB.encs (l.map (town g))).length <= 5 * wS l:=bW (town g) (fun s => 1 + s.size) 5 (fun s => by have:=cK g s; omega) l
theorem tattr_len (n : ByteArray) (ss : List ByteArray) : (PB.enc (bX n ss)).length <= 15 * (1 + n.size + wS ss):=by
 unfold bX
 have h1:=bV [tstr n,.mk 0 true 17 ⟨#[]⟩ (ss.map tstr)]
 have h2:=bG n
 have h3:=cz 0 17 (ss.map tstr)
 have h4:=tstrs_len ss
 rw [ag,ag,aq] at h1
 omega
theorem tmod_len (x : Md) : (PB.enc (tmod x)).length <= 40 * mdW x:=by
 unfold tmod mdW
 have h1:=bV [tnum 10 x.1,bX x.2.1 x.2.2]
 have h2:=cx 10 x.1
 have h3:=tattr_len x.2.1 x.2.2
 rw [ag,ag,aq] at h1
 omega
theorem dT {p : Bool} {t : Tl} {n : Nat} (h : (PB.enc t).length <= n) : (PB.encs (if p then [t] else [])).length <= n:=by
 cases p with
 | true => rw [if_pos rfl,ag,aq]; omega
 | false => rw [if_neg (by decide),aq]; omega
theorem tctl_len (c : Co) : (PB.enc (tctl c)).length <= 25 * coW c:=by
 unfold tctl coW
 have h1:=bV (tstr c.1 :: ((if c.2.1 then [bu true] else []) ++ (if c.2.2.1 then [tstr c.2.2.2] else [])))
 have h2:=bG c.1
 have h3:=dT (p:=c.2.1) (fp true)
 have h4:=dT (p:=c.2.2.1) (bG c.2.2.2)
 rw [ag,aL] at h1
 omega
theorem tpieces_len (f : ByteArray) (any : List ByteArray) (l : ByteArray) : (PB.encs (aB f any l)).length <= 10 + f.size + 5 * wS any + l.size:=by
 unfold aB
 rw [aL,aL]
 have h1:=dT (p:=ai f) (cK 0 f)
 have h2:=dT (p:=ai l) (cK 2 l)
 have h3:=towns_len 1 any
 omega
mutual
theorem fE : ∀ (f : Fl),(PB.enc (aV f)).length <= 30 * f.wt
 | .mk k a v g any l kids => by
  have ih:=ftrees_len kids
  unfold aV Fl.wt
  split
  ·have:=cz 2 k (bx kids); omega
  split
  ·have:=cK 7 a; omega
  split
  ·have h1:=cz 2 4 [tstr a,aF (aB g any l)]
   have h2:=bG a
   have h3:=bV (aB g any l)
   have h4:=tpieces_len g any l
   rw [ag,ag,aq] at h1
   omega
  ·have h1:=cz 2 k [tstr a,tstr v]
   have h2:=bG a
   have h3:=bG v
   rw [ag,ag,aq] at h1
   omega
theorem ftrees_len : ∀ (ks : List Fl),(PB.encs (bx ks)).length <= 30 * Fl.wts ks
 | [] => by unfold bx; rw [aq]; omega
 | k :: ks => by
  have h1:=fE k
  have h2:=ftrees_len ks
  unfold bx Fl.wts
  rw [ag]
  omega
end
theorem partsT_len (M : Ms) : (PB.encs M.partsT).length <= 200 + 40 * M.wt + 30 * M.filter.wt:=by
 have n1:=bG M.name
 have n2:=bG M.kind
 have n3:=bG M.value
 have n4:=bG M.text
 have n5:=bG M.rdn
 have n6:=cK 0 M.secret
 have n7:=cK 0 M.kind
 have n8:=cK 1 M.value
 have n9:=cK 10 M.kind
 unfold Ms.partsT Ms.wt
 split
 ·unfold Ms.bindT
  have h1:=cx 2 M.version
  have h2 : (PB.enc (if M.sasl then .mk 2 true 3 ⟨#[]⟩ (tstr M.kind :: (if M.has then [tstr M.value] else [])) else town 0 M.secret)).length <= 15 + M.kind.size + M.value.size + M.secret.size:=by
   split
   ·have g1:=cz 2 3 (tstr M.kind :: (if M.has then [tstr M.value] else []))
    have g2:=dT (p:=M.has) n3
    rw [ag] at g1
    omega
   ·omega
  rw [ag,ag,ag,aq]
  omega
 split
 ·unfold Ms.seaT
  have h1:=cx 10 M.scope
  have h2:=cx 10 M.deref
  have h3:=cx 2 M.size
  have h4:=cx 2 M.time
  have h5:=fp M.types
  have h6:=fE M.filter
  have h7:=bV (M.attrs.map tstr)
  have h8:=tstrs_len M.attrs
  rw [ag,ag,ag,ag,ag,ag,ag,ag,aq]
  omega
 split
 ·unfold Ms.entT
  have h1:=bV (M.list.map tat)
  have h2 : (PB.encs (M.list.map tat)).length <= 15 * wA M.list:=bW tat atW 15 (fun a => tattr_len a.1 a.2) M.list
  rw [ag,ag,aq]
  omega
 split
 ·unfold Ms.modT
  have h1:=bV (M.mods.map tmod)
  have h2 : (PB.encs (M.mods.map tmod)).length <= 40 * wM M.mods:=bW tmod mdW 40 tmod_len M.mods
  rw [ag,ag,aq]
  omega
 split
 ·unfold Ms.renT
  have h1:=towns_len 0 M.dest
  have h2:=fp M.old
  rw [aL,ag,ag,ag,aq]
  omega
 split
 ·unfold Ms.cmpT
  have h1:=bV [tstr M.kind,tstr M.value]
  rw [ag,ag,aq] at h1
  rw [ag,ag,aq]
  omega
 split
 ·unfold Ms.extT
  have h1:=dT (p:=M.has) n8
  rw [ag]
  omega
 ·unfold Ms.ansT
  have h1:=cx 10 M.code
  have h2:=dT (p:=M.op == 24 && ai M.kind) n9
  rw [aL,ag,ag,ag,aq]
  omega
theorem opT_len (M : Ms) : (PB.enc M.opT).length <= 205 + 40 * M.wt + 30 * M.filter.wt:=by
 have h0:=partsT_len M
 unfold Ms.opT
 split
 ·have:=dp 1 2 ⟨#[]⟩
  have e : (⟨#[]⟩ : ByteArray).size = 0:=rfl
  omega
 split
 ·have:=dp 1 10 M.name
  unfold Ms.wt
  omega
 split
 ·have:=dp 1 16 ⟨(PB.ofNum M.other).toArray⟩
  have h2:=fC M.other
  have e : (⟨(PB.ofNum M.other).toArray⟩ : ByteArray).size = (PB.ofNum M.other).length:=rfl
  omega
 ·have:=cz 1 M.op M.partsT
  omega
theorem tree_len (M : Ms) (h : M.wt <= 40000) (hf : M.filter.wt <= 10000) : (PB.enc M.tree).length < 4000000:=by
 unfold Ms.tree
 have h1:=bV ([tnum 2 M.id,M.opT] ++ (if M.controls = [] then [] else [.mk 2 true 0 ⟨#[]⟩ (M.controls.map tctl)]))
 have h2:=cx 2 M.id
 have h3:=opT_len M
 have h4 : (PB.encs (if M.controls = [] then [] else [.mk 2 true 0 ⟨#[]⟩ (M.controls.map tctl)])).length <= 5 + 25 * wC M.controls:=by
  split
  ·rw [aq]; omega
  ·have g1:=cz 2 0 (M.controls.map tctl)
   have g2 : (PB.encs (M.controls.map tctl)).length <= 25 * wC M.controls:=bW tctl coW 25 tctl_len M.controls
   rw [ag,aq]
   omega
 have h5 : wC M.controls <= M.wt:=by unfold Ms.wt; omega
 rw [aL,ag,ag,aq] at h1
 omega
mutual
theorem Fl.wt_slim : ∀ (f : Fl),f.wt <= 10000 -> f.slim
 | .mk k a v g any l kids,h => by
  unfold Fl.wt at h
  have h1:=fb any
  have h2:=Fl.wts_len kids
  have ih:=Fl.wts_slim kids (by omega)
  unfold Fl.slim
  exact ⟨by omega,by omega,ih⟩
theorem Fl.wts_slim : ∀ (ks : List Fl),Fl.wts ks <= 10000 -> Fl.slims ks
 | [],_ => by unfold Fl.slims; trivial
 | k :: ks,h => by
  unfold Fl.wts at h
  unfold Fl.slims
  exact ⟨Fl.wt_slim k (by omega),Fl.wts_slim ks (by omega)⟩
theorem Fl.wts_len : ∀ (ks : List Fl),ks.length <= Fl.wts ks
 | [] => Nat.zero_le _
 | k :: ks => by
  have h1:=Fl.wts_len ks
  have h2 : 1 <= k.wt:=by obtain ⟨a,b,c,d,e,f,g⟩:=k; unfold Fl.wt; omega
  unfold Fl.wts
  rw [List.length_cons]
  omega
end
end Go.Proofs.YtbiglfpikfjbpaaGreatDoor
