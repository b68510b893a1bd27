import Derived.Test.YtbiglfpikfjbpaaGreatDoorM31
import Derived.Test.YtbiglfpikfjbpaaGreatDoorM32
namespace Go.Proofs.YtbiglfpikfjbpaaGreatDoor
open Go.RowKit
open Go.PlainAid
set_option maxRecDepth 100000
set_option linter.unusedVariables false
set_option linter.unusedSimpArgs false
set_option maxHeartbeats 40000000
theorem du (s : ByteArray) : PB.enc (tstr s) = tlvB 4 s.data.toList:=by
 unfold tstr PB.enc tlvB
 rw [if_neg (by decide)]
 rfl
theorem fG (c g : Nat) (b : ByteArray) : PB.enc (.mk c false g b []) = tlvB (bl c false g) b.data.toList:=by
 unfold PB.enc tlvB bl
 rw [if_neg (by decide),if_neg (by decide)]
 rfl
theorem dN (c g : Nat) (ks : List Tl) : PB.enc (.mk c true g ⟨#[]⟩ ks) = tlvB (bl c true g) (PB.encs ks):=by
 unfold PB.enc tlvB bl
 rw [if_pos rfl,if_pos rfl]
 rfl
theorem enc_list (ks : List Tl) : PB.enc (aI ks) = tlvB 48 (PB.encs ks):=dN 0 16 ks
theorem bF (x : UInt8) (l : List UInt8) : l.length < (tlvB x l).length:=by
 unfold tlvB
 rw [List.length_cons,List.length_append]
 omega
theorem cL (ks : List Tl) (j : Nat) : (PB.encs (ks.take j)).length <= (PB.encs ks).length:=by
 have h:=PB.encs_app (ks.take j) (ks.drop j)
 rw [List.take_append_drop] at h
 rw [h,List.length_append]
 omega
theorem cQ {ks : List Tl} {k : Tl} (h : k ∈ ks) : (PB.enc k).length <= (PB.encs ks).length:=by
 induction ks with
 | nil => cases h
 | cons x ks ih =>
  unfold PB.encs
  rw [List.length_append]
  rcases List.mem_cons.1 h with rfl | h
  ·omega
  ·have:=ih h; omega
theorem cM {α : Type} {tl : α -> Tl} {ss : List α} {j : Nat} {x : α} (h : ss[j]? = some x) : PB.encs ((ss.take (j + 1)).map tl) = PB.encs ((ss.take j).map tl) ++ PB.enc (tl x):=by
 rw [cw h,List.map_append,PB.encs_app]
 simp [PB.encs]
theorem aV {s : ByteArray} {l : List UInt8} (h : s.data.toList = l) : s.size = l.length:=by rw [<- h]; rfl
theorem cE (c : Nat) (k : Bool) (g : Nat) (x : UInt8) (b : ByteArray) (l : List UInt8) (w : World) (hx : bl c k g = x) (hc : c <= 3) (hg : g <= 30) (h : b.data.toList = l) (hb : l.length < 16777216) :
  Calls Tryz.prog 29 #[.int .i64 c,.bool k,.int .i64 g,.string b] w (RefS (tlvB x l) w):=by
 subst h
 subst hx
 exact dq c k g b w hc hg hb
theorem rlist_at (b : ByteArray) (l : List UInt8) (w : World) (h : b.data.toList = l) (hb : l.length < 16777216) : Calls Tryz.prog 28 #[.string b] w (RefS (tlvB 48 l) w):=by
 subst h
 exact rlist_any b w hb
theorem rtexts_any (A : Option Addr) (cap : Nat) (ss : List ByteArray) (w : World) (hsl : Sl w A (ss.map Value.string)) (hn : ss.length <= 1000000) (hl : (PB.encs (ss.map tstr)).length < 16000000) :
  Calls Tryz.prog 58 #[.slice A ss.length cap] w (RefS (PB.encs (ss.map tstr)) w):=by
 have HSL:=aa hsl
 have HL:=aa hl
 clear hsl hl
 go_enter Tryz.func58,Tryz.ntmps58
 go_wp2_with fail
 go_loopw [3,4] (fun u i wr => ∃ (j : Nat) (s : ByteArray),i = .int .i64 j /\ u = .string s /\ j <= ss.length /\ Hid (s.data.toList = PB.encs ((ss.take j).map tstr)) /\ Below w.heap.size w wr) (fun _ i _ => ss.length - (intOf i).toNat)
 case atStart => exact ⟨0,⟨#[]⟩,rfl,rfl,Nat.zero_le _,by unfold Hid; simp [PB.encs],Below.refl _ _⟩
 case round =>
  obtain ⟨j,s,rfl,rfl,hj,HS,hbw⟩:=hrel
  have HBW:=aa hbw
  clear hbw
  by_cases hlt : j < ss.length
  ·have z1 : decide ((j : Int) < (ss.length : Int)) = true:=ab (by omega)
   have hx : ss[j]? = some ss[j]:=List.getElem?_eq_getElem hlt
   obtain ⟨b,o,rfl,hbl,hc⟩:=HSL.out j (.string ss[j]) (by rw [List.getElem?_map,hx]; rfl)
   have c0 : wr.cell? ⟨b,o + j,none⟩ = some (.string ss[j]):=((bcell HBW.out).1 b (o + j) hbl).trans hc
   obtain ⟨t,ht⟩ : ∃ t,t = ss[j]:=⟨_,rfl⟩
   rw [<- ht] at c0 hx
   have HX:=aa (cM (tl:=tstr) hx)
   have hle : (PB.enc (tstr t)).length <= (PB.encs (ss.map tstr)).length:=cQ (List.mem_map_of_mem (by rw [ht]; exact List.getElem_mem hlt))
   have hll:=HL.out
   rw [du] at hle
   have htl:=bF 4 t.data.toList
   have hts : t.size = t.data.toList.length:=rfl
   have HC:=aa (dd t wr (by omega))
   have hsz : s.size <= 16000000:=by
    have:=cL (ss.map tstr) j
    rw [<- List.map_take] at this
    rw [aV HS.out]; omega
   have hnx : ∀ x : ByteArray,x.data.toList = tlvB 4 t.data.toList -> ¬ 9223372036854775807 < s.size + x.size:=fun x hx => by rw [aV hx]; omega
   have HNX:=aa hnx
   clear hx hc ht hle hll htl hts hsz hnx
   go_wp2_with (first
    | (go_at_call 26; refine HC.out.mono ?_; rintro e w2 ⟨hb2,x,rfl,hx⟩; have hnx:=HNX.out x hx; have HB2:=aa (HBW.out.trans (hb2.mono HBW.out.size)); have HXL:=aa hx; clear hb2 hx)
    | fail)
   go_roundw
   case rel => exact ⟨j + 1,s ++ x,by go_num,rfl,by omega,by unfold Hid; rw [aP,HS.out,HXL.out,HX.out,du],HB2.out⟩
   case measure => simp [intOf]; omega
  ·have z1 : decide ((j : Int) < (ss.length : Int)) = false:=ae (by omega)
   have HF:=aa (show s.data.toList = PB.encs (ss.map tstr) by rw [HS.out,List.take_of_length_le (by omega)])
   go_wp2_with fail
   go_ret
   exact ⟨HBW.out,s,rfl,HF.out⟩
theorem rattr_any (name : ByteArray) (A : Option Addr) (cap : Nat) (ss : List ByteArray) (w : World) (hsl : Sl w A (ss.map Value.string)) (hn : ss.length <= 1000000) (hl : (PB.enc (cv name ss)).length < 16000000) :
  Calls Tryz.prog 60 #[.string name,.slice A ss.length cap] w (RefS (PB.enc (cv name ss)) w):=by
 have e0 : PB.enc (cv name ss) = tlvB 48 (tlvB 4 name.data.toList ++ tlvB 49 (PB.encs (ss.map tstr))):=by
  unfold cv
  rw [enc_list,PB.encs,du,PB.encs,show (PB.enc (.mk 0 true 17 ⟨#[]⟩ (ss.map tstr))) = tlvB 49 (PB.encs (ss.map tstr)) from dN 0 17 _,PB.encs,List.append_nil]
 rw [e0] at hl |-
 have t1:=bF 48 (tlvB 4 name.data.toList ++ tlvB 49 (PB.encs (ss.map tstr)))
 rw [List.length_append] at t1
 have t2:=bF 4 name.data.toList
 have t3:=bF 49 (PB.encs (ss.map tstr))
 have t4 : name.size = name.data.toList.length:=rfl
 have H1:=aa fun W => dd name W (by omega)
 have H2:=aa fun W (hb : Below w.heap.size w W) => rtexts_any A cap ss W (hsl.off (Off.of_below hb []) (by simp)) hn (by omega)
 have H3:=aa fun (s : ByteArray) (h : s.data.toList = PB.encs (ss.map tstr)) (W : World) => cE 0 true 17 49 s _ W rfl (by omega) (by omega) h (by omega)
 have hnx : ∀ x y : ByteArray,x.data.toList = tlvB 4 name.data.toList -> y.data.toList = tlvB 49 (PB.encs (ss.map tstr)) -> ¬ 9223372036854775807 < x.size + y.size:=fun x y hx hy => by rw [aV hx,aV hy]; omega
 have H4:=aa fun (s : ByteArray) (h : s.data.toList = tlvB 4 name.data.toList ++ tlvB 49 (PB.encs (ss.map tstr))) (W : World) => rlist_at s _ W h (by rw [List.length_append]; omega)
 have HNX:=aa hnx
 clear hl e0 hsl t1 t2 t3 t4 hnx
 go_enter Tryz.func60,Tryz.ntmps60
 go_wp2_with (first
  | (go_at_call 26; refine (H1.out _).mono ?_; rintro e w2 ⟨hb2,x,rfl,hx⟩; have HB2:=aa hb2; have HX:=aa hx; clear hb2 hx)
  | (go_at_call 58; refine (H2.out _ HB2.out).mono ?_; rintro e w3 ⟨hb3,y,rfl,hy⟩; have HB3:=aa (HB2.out.trans (hb3.mono HB2.out.size)); have HY:=aa hy; clear hb3 hy)
  | (go_at_call 29; refine (H3.out y HY.out _).mono ?_; rintro e w4 ⟨hb4,z,rfl,hz⟩; have hnx:=HNX.out x z HX.out hz; have HB4:=aa (HB3.out.trans (hb4.mono HB3.out.size)); have HZ:=aa (show (x ++ z).data.toList = tlvB 4 name.data.toList ++ tlvB 49 (PB.encs (ss.map tstr)) by rw [aP,HX.out,hz]); clear hb4 hz)
  | (go_at_call 28; refine (H4.out (x ++ z) HZ.out _).mono ?_; rintro e w5 ⟨hb5,r,rfl,hr⟩; have HB5:=aa (HB4.out.trans (hb5.mono HB4.out.size)); have HR:=aa hr; clear hb5 hr)
  | fail)
 go_ret
 exact ⟨HB5.out,r,rfl,HR.out⟩
abbrev tz5 : Array Value:=#[.int .i64 0,.bool false,.int .i64 0,.string ⟨#[]⟩,.slice none 0 0]
theorem attr_do (d : At) (c : List Value) (S : Nat -> Prop) (w : World) (h : bQ w S d c) (hn : d.2.length <= 1000000) : Calls Tryz.prog 78 #[.agg c.toArray] w (RetT (tat d) w):=by
 obtain ⟨nm,ss⟩:=d
 obtain ⟨⟨qA,qn,qc⟩,rfl,hz,hss⟩:=h
 simp only at hz hss hn |-
 have hsl:=cX hss
 have hfit:=eh hss
 obtain rfl : qn = ss.length:=hss.1
 have HC:=aa (fun W (hb : Below w.heap.size w W) => attribute_t nm qA qc ss W hz (hsl.off (Off.of_below hb []) (by simp)) hn hfit)
 clear hss hsl hfit hz
 go_enter Tryz.func78,Tryz.ntmps78
 go_wp2_with (first
  | (go_at_call 79; refine (HC.out _ (((Below.refl _ w).alloc (Nat.le_refl _) _).alloc (by simp) _)).mono ?_; rintro e w2 ⟨hb2,cs2,rfl,ht2⟩; obtain ⟨x0,x1,x2,x3,xA,xn,xc,rfl⟩:=ak ht2; have HZ2:=aa (af (Bk.new (w.alloc (.cells #[.string nm,.slice qA ss.length qc] 50)) 42 tz5) hb2); have HB2:=aa hb2; have HT2:=aa ht2; clear hb2 ht2)
  | (refine ap rfl 42 (.tmp 2) (.tmp 7) rfl (w.heap.size + 1) rfl #[.int .i64 x0,.bool x1,.int .i64 x2,.string x3,.slice xA xn xc] rfl 42 tz5 (by have:=HZ2.out; simpa using this) rfl (by kernel_rfl) (by simp [Value.oneCell']) (fun w5 hbk5 hof5 => ?_); have HOF5:=aa hof5; have r0:=hbk5.cell 0; have r1:=hbk5.cell 1; have r2:=hbk5.cell 2; have r3:=hbk5.cell 3; have r4:=hbk5.cell 4)
  | fail)
 have h02:=(((Below.refl w.heap.size w).alloc (Nat.le_refl _) (.cells #[.string nm,.slice qA ss.length qc] 50)).alloc (by simp) (.cells tz5 42)).trans (HB2.out.mono (by simp; omega))
 refine bodyPost_ret (v:=.agg #[.int .i64 x0,.bool x1,.int .i64 x2,.string x3,.slice xA xn xc]) (by simp [results,Tryz.results78,go_sem,r0,r1,r2,r3,r4]) rfl ⟨h02.trans (HOF5.out.below (B:=w.heap.size) h02.size (by simp)),_,rfl,TlAt.keep HOF5.out.size (fun x hx hlt => HOF5.out.block x hlt ?_) (fun x hx _ => ?_) _ _ HT2.out⟩
 ·have hx : ((w.alloc _).alloc _).heap.size <= x:=hx
  simp at hx |-
  omega
 ·have hx : ((w.alloc _).alloc _).heap.size <= x:=hx
  simp at hx
  show w.heap.size <= x
  omega
theorem set5 (W : World) {g k : Nat} {T U : TypeId} {cs : Array Value} {v0 v1 v2 v3 v4 : Value} {B : Nat} {w : World} (hg : Bk W g T #[v0,v1,v2,v3,v4]) (hk : Bk W k U cs) (hne : k ≠ g) (hb : Below B w W) (hB : B <= g) (u0 u1 u2 u3 u4 : Value) :
  Bk (((((W.setCell ⟨g,0,none⟩ u0).setCell ⟨g,1,none⟩ u1).setCell ⟨g,2,none⟩ u2).setCell ⟨g,3,none⟩ u3).setCell ⟨g,4,none⟩ u4) g T #[u0,u1,u2,u3,u4] ∧
  Bk (((((W.setCell ⟨g,0,none⟩ u0).setCell ⟨g,1,none⟩ u1).setCell ⟨g,2,none⟩ u2).setCell ⟨g,3,none⟩ u3).setCell ⟨g,4,none⟩ u4) k U cs ∧
  Below B w (((((W.setCell ⟨g,0,none⟩ u0).setCell ⟨g,1,none⟩ u1).setCell ⟨g,2,none⟩ u2).setCell ⟨g,3,none⟩ u3).setCell ⟨g,4,none⟩ u4) ∧
  Off [g] W (((((W.setCell ⟨g,0,none⟩ u0).setCell ⟨g,1,none⟩ u1).setCell ⟨g,2,none⟩ u2).setCell ⟨g,3,none⟩ u3).setCell ⟨g,4,none⟩ u4):=by
 refine ⟨?_,?_,?_,?_⟩
 ·have h:=((((hg.put 0 u0).put 1 u1).put 2 u2).put 3 u3).put 4 u4
  simpa using h
 ·exact ((((hk.far (p:=⟨g,0,none⟩) hne _).far (p:=⟨g,1,none⟩) hne _).far (p:=⟨g,2,none⟩) hne _).far (p:=⟨g,3,none⟩) hne _).far (p:=⟨g,4,none⟩) hne _
 ·exact ((((hb.setCell hB _).setCell hB _).setCell hB _).setCell hB _).setCell hB _
 ·exact (((((Off.refl [g] W).setCell (p:=⟨g,0,none⟩) (.inl (by simp)) _).setCell (p:=⟨g,1,none⟩) (.inl (by simp)) _).setCell (p:=⟨g,2,none⟩) (.inl (by simp)) _).setCell (p:=⟨g,3,none⟩) (.inl (by simp)) _).setCell (p:=⟨g,4,none⟩) (.inl (by simp)) _
theorem mod_do (d : Md) (c : List Value) (S : Nat -> Prop) (w : World) (h : dy w S d c) (hn : d.2.2.length <= 1000000) (hk : in64 d.1) : Calls Tryz.prog 81 #[.agg c.toArray] w (RetT (tmod d) w):=by
 obtain ⟨k,nm,ss⟩:=d
 obtain ⟨⟨qA,qn,qc⟩,rfl,⟨-,hz⟩,hss⟩:=h
 simp only at hz hss hn hk |-
 have hsl:=cX hss
 have hfit:=eh hss
 obtain rfl : qn = ss.length:=hss.1
 obtain ⟨wa,hwa⟩ : ∃ W,W = w.alloc (.cells #[.int .i64 k,.string nm,.slice qA ss.length qc] 52):=⟨_,rfl⟩
 have hsa : wa.heap.size = w.heap.size + 1:=by rw [hwa]; simp
 have hba : Below w.heap.size w wa:=by rw [hwa]; exact (Below.refl w.heap.size w).alloc (Nat.le_refl _) _
 have hka : Bk wa w.heap.size 52 #[.int .i64 k,.string nm,.slice qA ss.length qc]:=by rw [hwa]; exact Bk.new w _ _
 obtain ⟨wc,hwc⟩ : ∃ W,W = wa.alloc (.cells tz5 42):=⟨_,rfl⟩
 have hsc : wc.heap.size = w.heap.size + 2:=by rw [hwc]; simp [hsa]
 have hbx : Below w.heap.size w wc:=by rw [hwc]; exact hba.alloc hba.size _
 have hkx : Bk wc w.heap.size 52 #[.int .i64 k,.string nm,.slice qA ss.length qc]:=by rw [hwc]; exact hka.alloc _
 have hgx : Bk wc (w.heap.size + 1) 42 tz5:=by rw [hwc,<- hsa]; exact Bk.new wa _ _
 have HBX:=aa hbx
 have HKX:=aa hkx
 have HGX:=aa hgx
 have HSC:=aa hsc
 have HN:=aa fun (W : World) => eO 10 k rfl W hk.1 hk.2
 have HA:=aa fun (W : World) (hb : Below wc.heap.size wc W) => attribute_t nm qA qc ss W hz (hsl.off (Off.of_below ((hbx.trans (hb.mono hbx.size))) []) (by simp)) hn hfit
 have HBR:=aa (Below.refl wc.heap.size wc).drew
 have HKF:=aa fun (W : World) (hk : Bk W w.heap.size 52 #[.int .i64 k,.string nm,.slice qA ss.length qc]) (hb : Below w.heap.size w W) => (show W.cell? ⟨w.heap.size,0,none⟩ = some (.int .i64 k) /\ W.cell? ⟨w.heap.size,1,none⟩ = some (.string nm) /\ W.cell? ⟨w.heap.size,2,none⟩ = some (.slice qA ss.length qc) /\ Below w.heap.size w W from
  ⟨hk.cell 0,hk.cell 1,hk.cell 2,hb⟩)
 have HKS:=aa fun (W : World) (hb : Below wc.heap.size wc W) => HKF.out W (af hkx hb) (hbx.trans (hb.mono hbx.size))
 have HWC:=aa (show w.heap.size + 1 = wa.heap.size /\ wc = (w.alloc (.cells #[.int .i64 k,.string nm,.slice qA ss.length qc] 52)).alloc (.cells tz5 42) from ⟨hsa.symm,by rw [hwc,hwa]⟩)
 clear hwc hwa hsa hba hka hbx hkx hgx hsc hss hsl hfit hz
 go_enter Tryz.func81,Tryz.ntmps81
 go_wp2_with fail
 rw [<- HWC.out.2]
 go_region_held3 (fun W => W.cell? ⟨w.heap.size,0,none⟩ = some (.int .i64 k) /\ W.cell? ⟨w.heap.size,1,none⟩ = some (.string nm) /\ W.cell? ⟨w.heap.size,2,none⟩ = some (.slice qA ss.length qc) /\ Below w.heap.size w W)
  (first | (with_reducible exact HSF) | (with_reducible exact HKS.out _ HBR.out) | (with_reducible exact HKS.out _ (by assumption)) | (with_reducible exact HKS.out _ (bel1 (by assumption) _)))
  (first
   | (go_at_call 19; refine (HN.out _).mono ?_; rintro e w1 ⟨hb1,cs1,rfl,ht1⟩; obtain ⟨a10,a11,a12,a13,a1A,a1n,a1c,rfl⟩:=ak ht1; have hn1:=ag HBR.out hb1)
   | (go_at_call 79; refine (HA.out _ hn1).mono ?_; rintro e w2 ⟨hb2,cs2,rfl,ht2⟩; obtain ⟨a20,a21,a22,a23,a2A,a2n,a2c,rfl⟩:=ak ht2; have hn2:=ag hn1 hb2)
   | (go_at_call 18; refine (bD _ _ _ _).mono ?_; rintro e w3 ⟨rfl,hb3⟩; have hn3:=ag (bel1 hn2 _) hb3; have hg3:=af HGX.out hn3; have hf5:=hg3.five; have z0:=hf5.1; have z1:=hf5.2.1; have z2:=hf5.2.2.1; have z3:=hf5.2.2.2.1; have z4:=hf5.2.2.2.2; have g0:=hg3.frozen 0; have g1:=hg3.frozen 1; have g2:=hg3.frozen 2; have g3:=hg3.frozen 3; have g4:=hg3.frozen 4; have hsf:=set5 w3 hg3 (af HKX.out hn3) (by omega) (HBX.out.trans (hn3.mono HBX.out.size)) (by omega) (.int .i64 0) (.bool true) (.int .i64 16) (.string ⟨#[]⟩) (.slice (some ⟨w2.heap.size,0,none⟩) 2 2); have HSF:=HKF.out _ hsf.2.1 hsf.2.2.1)
   | fail)
 all_goals
  have r0:=hsf.1.cell 0
  have r1:=hsf.1.cell 1
  have r2:=hsf.1.cell 2
  have r3:=hsf.1.cell 3
  have r4:=hsf.1.cell 4
  have hs1:=hn1.size
  have hrow:=fg (w8:=w2) (B:=wc.heap.size) (n:=2) (ts:=[tnum 10 k,cv nm ss]) [[.int .i64 a10,.bool a11,.int .i64 a12,.string a13,.slice a1A a1n a1c],[.int .i64 a20,.bool a21,.int .i64 a22,.string a23,.slice a2A a2n a2c]] #[.int .i64 a10,.bool a11,.int .i64 a12,.string a13,.slice a1A a1n a1c,.int .i64 a20,.bool a21,.int .i64 a22,.string a23,.slice a2A a2n a2c] hn2.size rfl
   ⟨⟨rfl,TlAt.up ht1 hb2 (Nat.le_refl _)⟩,⟨rfl,TlAt.up ht2 (Below.refl _ _) hs1⟩,trivial⟩ rfl (by omega)
  have htt:=TlAt.up (B:=wc.heap.size) (bX 0 16 true ⟨#[]⟩ hrow rfl rfl (Nat.zero_le _)) hb3 (Nat.le_refl _)
  have HTT:=aa (TlAt.keep (T:=fun x => w.heap.size <= x) hsf.2.2.2.size (fun x hx hlt => hsf.2.2.2.block x hlt (by have hx : wc.heap.size <= x:=hx; have:=HSC.out; simp; omega)) (fun x hx _ => by have hx : wc.heap.size <= x:=hx; have:=HSC.out; show w.heap.size <= x; omega) _ _ htt)
  have HBF:=aa hsf.2.2.1
  go_wp2_with fail
  exact bodyPost_ret (v:=.agg #[.int .i64 0,.bool true,.int .i64 16,.string ⟨#[]⟩,.slice (some ⟨w2.heap.size,0,none⟩) 2 2]) (by simp [results,Tryz.results81,go_sem,r0,r1,r2,r3,r4]) rfl ⟨HBF.out,_,rfl,HTT.out⟩
def LeafC (t : Tl) (c : List Value) : Prop:=c.length = 5 /\ ∀ W S,TlAt W S t c.toArray
theorem All2.app {α β : Type} {R : α -> β -> Prop} {a : α} {b : β} (hr : R a b) : ∀ {l : List α} {k : List β},All2 R l k -> All2 R (l ++ [a]) (k ++ [b])
 | [],[],_ => ⟨hr,trivial⟩
 | _ :: _,_ :: _,h => ⟨h.1,h.2.app hr⟩
 | [],_ :: _,h => h.elim
 | _ :: _,[],h => h.elim
def NodeC (w wx : World) (T : TypeId) (cs : Array Value) (c tag : Int) (g bo n cap : Nat) (css : List (List Value)) (ts : List Tl) : Prop :=
 Below w.heap.size w wx /\ Bk wx w.heap.size T cs /\ Bk wx (w.heap.size + 1) 42 tz5 /\ Bk wx g 42 #[.int .i64 c,.bool true,.int .i64 tag,.string ⟨#[]⟩,.slice (some ⟨bo,0,none⟩) n cap] ∧
  (w.heap.size + 2 <= g /\ bo ≠ g /\ w.heap.size + 2 <= bo /\ n <= 50) /\ wx.ownsRow w.heap.size 42 5 (.slice (some ⟨bo,0,none⟩) n cap) n css.flatten /\ All2 LeafC ts css /\ n = ts.length
theorem NodeC.push {w wx w6 w7 : World} {T : TypeId} {cs : Array Value} {c tag : Int} {g bo n cap gg cap7 : Nat} {css : List (List Value)} {ts : List Tl} {t : Tl} {r : List Value} {o : Obj} (h : NodeC w wx T cs c tag g bo n cap css ts) (hb6 : Below wx.heap.size wx.drew w6) (hr : LeafC t r) (hn : n <= 49)
  (hown7 : w7.ownsRow w.heap.size 42 5 (.slice (some ⟨gg,0,none⟩) (n + 1) cap7) (n + 1) (css.flatten ++ r)) (hgr : (w6.alloc o).grownBy w7 (Value.slice (some ⟨bo,0,none⟩) n cap).ownBlock) (hat : (Value.slice (some ⟨bo,0,none⟩) n cap).ownBlock = some gg \/ gg = w6.heap.size + 1) :
  NodeC w (w7.setCell ⟨g,4,none⟩ (.slice (some ⟨gg,0,none⟩) (n + 1) cap7)) T cs c tag g gg (n + 1) cap7 (css ++ [r]) (ts ++ [t]):=by
 obtain ⟨h1,h2,h3,h4,⟨h5,h6,h7,h7'⟩,h8,h9,h10⟩:=h
 have hb:=h1.drew.trans (hb6.mono h1.size)
 have hg6:=af h4.drew hb6
 have hk6:=af h2.drew hb6
 have hz6:=af h3.drew hb6
 have hN:=eF (bo:=bo) hb (Nat.le_refl _) hg6 hk6 (by omega) rfl h6 (by omega) (by omega) (by omega) hown7 hgr hat
 have hN2:=eF (bo:=bo) hb (Nat.le_refl _) hg6 hz6 (by omega) rfl h6 (by omega) (by omega) (by omega) hown7 hgr hat
 have hgl:=hg6.lt
 have hgg : gg ≠ g /\ w.heap.size + 2 <= gg:=by
  rcases hat with h | h
  ·have h : some bo = some gg:=h
   injection h with h
   omega
  ·omega
 exact ⟨hN.1,hN.2.2.1,hN2.2.2.1,hN.2.1,⟨h5,hgg.1,hgg.2,by omega⟩,by simpa using hN.2.2.2,h9.app hr,by simp [h10]⟩
theorem own_base {w : World} {B B' bo n cap k : Nat} {E : TypeId} {xs : List Value} (h : w.ownsRow B E k (.slice (some ⟨bo,0,none⟩) n cap) n xs) (hB : B' <= bo) : w.ownsRow B' E k (.slice (some ⟨bo,0,none⟩) n cap) n xs:=by
 obtain ⟨h1,h2⟩:=h
 refine ⟨h1,?_⟩
 rcases h2 with ⟨h,-⟩ | ⟨g,c,cur,hv,hb,r⟩
 ·cases h
 ·refine .inr ⟨g,c,cur,hv,?_,r⟩
  injection hv with hv _ _
  injection hv with hv
  injection hv with hv
  omega
theorem NodeC.tree {w wx : World} {T : TypeId} {cs : Array Value} {c tag : Int} {g bo n cap : Nat} {css : List (List Value)} {ts : List Tl} (h : NodeC w wx T cs c tag g bo n cap css ts) (hc : (Lit.int .i64 c).wf = true) (ht : (Lit.int .i64 tag).wf = true) :
  TlAt wx (fun x => w.heap.size + 2 <= x) (.mk c true tag ⟨#[]⟩ ts) #[.int .i64 c,.bool true,.int .i64 tag,.string ⟨#[]⟩,.slice (some ⟨bo,0,none⟩) n cap]:=by
 obtain ⟨h1,h2,h3,h4,h5,h8,h9,rfl⟩:=h
 exact grow_at c tag (GRow.leaves (own_base h8 h5.2.2.1) h9.len.symm (fun c hx => h9.right (P:=fun c => c.length = 5) (fun _ _ h => h.1) c hx) (fun i t c hi hx => (h9.get i t c hi hx).2)) hc ht
theorem NodeC.done {w wx w5 : World} {T : TypeId} {cs : Array Value} {c tag : Int} {g bo n cap : Nat} {css : List (List Value)} {ts : List Tl} {t : Tl} (h : NodeC w wx T cs c tag g bo n cap css ts) (hc : (Lit.int .i64 c).wf = true) (ht : (Lit.int .i64 tag).wf = true) (hof : Off [w.heap.size + 1] wx w5) (he : t = .mk c true tag ⟨#[]⟩ ts) :
  RetT t w (.returned (.agg #[.int .i64 c,.bool true,.int .i64 tag,.string ⟨#[]⟩,.slice (some ⟨bo,0,none⟩) n cap])) w5:=by
 subst he
 refine ⟨h.1.trans (hof.below h.1.size (by simp)),_,rfl,TlAt.keep hof.size (fun x hx hlt => hof.block x hlt ?_) (fun x hx _ => ?_) _ _ (h.tree hc ht)⟩
 ·have hx : w.heap.size + 2 <= x:=hx
  simp
  omega
 ·have hx : w.heap.size + 2 <= x:=hx
  show w.heap.size <= x
  omega
theorem ctl_do (d : Co) (c : List Value) (S : Nat -> Prop) (w : World) (h : CoAt w S d c) : Calls Tryz.prog 22 #[.agg c.toArray] w (RetT (tctl d) w):=by
 obtain ⟨i0,hi,iz0,iz1,iz2⟩:=info_parts aR
 obtain ⟨ty,crit,has,v⟩:=d
 obtain ⟨rfl,hz1,hz2⟩:=h
 simp only at hz1 hz2 |-
 obtain ⟨wa,hwa⟩ : ∃ W,W = w.alloc (.cells #[.string ty,.bool crit,.bool has,.string v] 54):=⟨_,rfl⟩
 have hsa : wa.heap.size = w.heap.size + 1:=by rw [hwa]; simp
 have hba : Below w.heap.size w wa:=by rw [hwa]; exact (Below.refl w.heap.size w).alloc (Nat.le_refl _) _
 have hka : Bk wa w.heap.size 54 #[.string ty,.bool crit,.bool has,.string v]:=by rw [hwa]; exact Bk.new w _ _
 obtain ⟨wc,hwc⟩ : ∃ W,W = wa.alloc (.cells tz5 42):=⟨_,rfl⟩
 have hsc : wc.heap.size = w.heap.size + 2:=by rw [hwc]; simp [hsa]
 have hbx : Below w.heap.size w wc:=by rw [hwc]; exact hba.alloc hba.size _
 have hkx : Bk wc w.heap.size 54 #[.string ty,.bool crit,.bool has,.string v]:=by rw [hwc]; exact hka.alloc _
 have hgx : Bk wc (w.heap.size + 1) 42 tz5:=by rw [hwc,<- hsa]; exact Bk.new wa _ _
 have HBX:=aa hbx
 have HKX:=aa hkx
 have HGX:=aa hgx
 have HSC:=aa hsc
 have HZ1:=aa hz1
 have HZ2:=aa hz2
 have HWC:=aa (show w.heap.size + 1 = wa.heap.size /\ wc = (w.alloc (.cells #[.string ty,.bool crit,.bool has,.string v] 54)).alloc (.cells tz5 42) from ⟨hsa.symm,by rw [hwc,hwa]⟩)
 clear hwc hwa hsa hba hka hbx hkx hgx hsc hz1 hz2
 go_enter Tryz.func22,Tryz.ntmps22
 go_upto_if 10 with (first
  | (go_at_call 52; refine (aX ty _ HZ1.out).mono ?_; rintro e w1 ⟨hb1,cs1,rfl,ht1⟩; obtain ⟨a0,a1,a2,a3,aA,an,ac,rfl⟩:=ak ht1; rw [<- HWC.out.2] at hb1; have HT1:=aa (show LeafC (tstr ty) [.int .i64 a0,.bool a1,.int .i64 a2,.string a3,.slice aA an ac] from ⟨rfl,aw ht1⟩); have hbx1:=HBX.out.trans (hb1.mono HBX.out.size); have hs1:=hb1.size; have HLIT:=aa (World.ownsRow_lit (base:=w.heap.size) (e:=42) (size:=5) w1 #[.int .i64 a0,.bool a1,.int .i64 a2,.string a3,.slice aA an ac] 1 hbx1.size (by unfold maxLen; omega) rfl); have HB1:=aa (hbx1.alloc hbx1.size (.cells #[.int .i64 a0,.bool a1,.int .i64 a2,.string a3,.slice aA an ac] 42)); have HK1:=aa ((af HKX.out hb1).alloc (.cells #[.int .i64 a0,.bool a1,.int .i64 a2,.string a3,.slice aA an ac] 42)); have HG1:=aa ((af HGX.out hb1).alloc (.cells #[.int .i64 a0,.bool a1,.int .i64 a2,.string a3,.slice aA an ac] 42)); clear hb1 ht1 hbx1)
  | (go_at_call 18; refine (bD _ _ _ _).mono ?_; rintro e w2 ⟨rfl,hb2⟩; have HNC:=aa (show NodeC w (w2.alloc (.cells #[.int .i64 0,.bool true,.int .i64 16,.string ⟨#[]⟩,.slice (some ⟨w1.heap.size,0,none⟩) 1 1] 42)) 54 #[.string ty,.bool crit,.bool has,.string v] 0 16 w2.heap.size w1.heap.size 1 1 [[.int .i64 a0,.bool a1,.int .i64 a2,.string a3,.slice aA an ac]] [tstr ty] from
    have hbb:=HB1.out.trans (hb2.mono HB1.out.size); have hs2:=hb2.size; have hsc:=HSC.out; ⟨hbb.alloc hbb.size _,(af HK1.out hb2).alloc _,(af HG1.out hb2).alloc _,Bk.new w2 _ _,⟨by simp at hs2; omega,by simp at hs2; omega,by omega,by omega⟩,World.ownsRow.alloc ((Off.of_below hb2 []).own HLIT.out (by simp)) _,⟨HT1.out,trivial⟩,rfl⟩); have q1 : (w2.alloc (.cells #[.int .i64 0,.bool true,.int .i64 16,.string ⟨#[]⟩,.slice (some ⟨w1.heap.size,0,none⟩) 1 1] 42)).cell? ⟨w.heap.size,1,none⟩ = some (.bool crit):=HNC.out.2.1.cell 1; have hlt2:=(af HK1.out hb2).lt; clear hb2)
  | fail)
 go_cut [3] from 11 to 16 (fun v9 wx => ∃ (g bo n cap : Nat) (css : List (List Value)),v9 = .pointer (some ⟨g,0,none⟩) /\ NodeC w wx 54 #[.string ty,.bool crit,.bool has,.string v] 0 16 g bo n cap css (tstr ty :: (if crit then [bx true] else [])) /\ n <= 2)
 case first =>
  obtain ⟨wx,hwx⟩ : ∃ W,W = w2.alloc (.cells #[.int .i64 0,.bool true,.int .i64 16,.string ⟨#[]⟩,.slice (some ⟨w1.heap.size,0,none⟩) 1 1] 42):=⟨_,rfl⟩
  rw [<- hwx] at HNC q1 |-
  clear hwx
  obtain ⟨g,hg⟩ : ∃ g,g = w2.heap.size:=⟨_,rfl⟩
  rw [<- hg] at HNC |-
  clear hg
  cases crit with
  | false =>
   go_wp2_with fail
   go_meet
   exact ⟨g,_,_,_,_,rfl,HNC.out,by omega⟩
  | true =>
   go_wp2_with fail
   have hbk:=HNC.out.2.2.2.1
   have u1 : wx.cell? ⟨g,4,none⟩ = some (.slice (some ⟨w1.heap.size,0,none⟩) 1 1):=hbk.cell 4
   have u2:=hbk.frozen 4
   have u3:=hbk.lt
   have hown5:=HNC.out.2.2.2.2.2.1
   have HOWN5:=aa hown5
   have hne : ¬ (w1.heap.size = g):=HNC.out.2.2.2.2.1.2.1
   have hbl : w1.heap.size < wx.heap.size:=(World.ownsRow.lt hown5 _ rfl).2
   have hwx2:=HNC.out.1.size
   clear hown5 hbk
   go_region_law ((first
    | (go_simp; go_at_call 53; refine (bool_t true _).mono ?_ ; rintro e w6 ⟨hb6,cs6,rfl,ht6⟩; obtain ⟨r0,r1,r2,r3,rA,rn,rc,rfl⟩:=ak ht6; have hg6:=af HNC.out.2.2.2.1.drew hb6; have HT6:=aa (aw ht6); have y1 : w6.cell? ⟨g,4,none⟩ = some (.slice (some ⟨w1.heap.size,0,none⟩) 1 1):=hg6.cell 4; have y2:=hg6.frozen 4; have y3:=hg6.lt; have HB6:=aa hb6; have hown6:=(Off.of_below hb6 []).own (World.ownsRow.drew HOWN5.out) (by simp); have hs6:=hb6.size; clear hg6)
    | (refine step_append_lies _ ?g1 (.tmp 12) (.tmp 14) 40 ?g2 w.heap.size 42 i0 _ 5 64 Tryz.underlying40 hi iz0 iz1 iz2 ?q1 ?q2 (.slice (some ⟨w1.heap.size,0,none⟩) 1 1) 1 [.int .i64 a0,.bool a1,.int .i64 a2,.string a3,.slice aA an ac] ?q3 (hown6.alloc _) ⟨w6.heap.size,0,none⟩ 1 1 [.int .i64 r0,.bool r1,.int .i64 r2,.string r3,.slice rA rn rc] ?q5 ?q6 ?q7 ?q8 ?q9 ?q10 ?q11 ?q12 (w6.heap.size + 1) ?q13 ?_; (case g1 => (rfl)); (case g2 => (rfl)); (case q1 => (rfl)); (case q2 => (omega)); (case q3 => (rfl)); (case q5 => (rfl)); (case q6 => (rfl)); (case q7 => (exact World.news_of_block (cs:=#[.int .i64 r0,.bool r1,.int .i64 r2,.string r3,.slice rA rn rc]) (heap_alloc_new w6 _))); (case q8 => (simp [Value.oneCell'])); (case q9 => (omega)); (case q10 => (unfold maxLen; omega)); (case q11 => (omega)); (case q12 => (simp at hs6 |-; omega)); (case q13 => (simp)); intro gg cap7 w7 hown7 hgrow7 hat7 hlt7; have hkg:=bC ⟨(aK y1 y2 y3 _).1,(aK y1 y2 y3 _).2⟩ hgrow7 (by simp [Value.ownBlock]; omega) (by simp; omega); have hkg1:=hkg.1; have hkg2:=hkg.2)
    | fail))
   all_goals
    have HN:=aa (NodeC.push HNC.out HB6.out ⟨rfl,HT6.out⟩ (by omega) hown7 hgrow7 hat7)
    clear hown7 hgrow7 hat7 hkg hkg1 hkg2 hown6 y1 y2 y3 u1 u2 u3
    go_wp2_with fail
    go_meet
    exact ⟨g,_,_,_,_,rfl,HN.out,by omega⟩
 case rest =>
  obtain ⟨g,bo,n,cap,css,rfl,hnc,hn2⟩:=hcut
  have HNC:=aa hnc
  have q2 : wc.cell? ⟨w.heap.size,2,none⟩ = some (.bool has):=hnc.2.1.cell 2
  have hlt3:=hnc.2.1.lt
  clear hnc
  have q3 : wc.cell? ⟨w.heap.size,3,none⟩ = some (.string v):=HNC.out.2.1.cell 3
  cases has with
  | false =>
   have hbg:=HNC.out.2.2.2.1
   have e0:=hbg.cell 0
   have e1:=hbg.cell 1
   have e2:=hbg.cell 2
   have e3:=hbg.cell 3
   have e4:=hbg.cell 4
   have elt:=hbg.lt
   have HZ9:=aa HNC.out.2.2.1
   clear hbg
   go_wp2_with (first
    | (refine ap rfl 42 (.tmp 2) (.tmp 27) rfl (w.heap.size + 1) rfl #[.int .i64 0,.bool true,.int .i64 16,.string ⟨#[]⟩,.slice (some ⟨bo,0,none⟩) n cap] rfl 42 tz5 HZ9.out rfl (by kernel_rfl) (by simp [Value.oneCell']) (fun w9 hbk9 hof9 => ?_); have HOF9:=aa hof9; have r0':=hbk9.cell 0; have r1':=hbk9.cell 1; have r2':=hbk9.cell 2; have r3':=hbk9.cell 3; have r4':=hbk9.cell 4)
    | fail)
   exact bodyPost_ret (v:=.agg #[.int .i64 0,.bool true,.int .i64 16,.string ⟨#[]⟩,.slice (some ⟨bo,0,none⟩) n cap]) (by simp [results,Tryz.results22,go_sem,r0',r1',r2',r3',r4']) rfl (NodeC.done HNC.out rfl rfl HOF9.out (by cases crit <;> rfl))
  | true =>
   go_wp2_with fail
   have hbk:=HNC.out.2.2.2.1
   have u1 : wc.cell? ⟨g,4,none⟩ = some (.slice (some ⟨bo,0,none⟩) n cap):=hbk.cell 4
   have u2:=hbk.frozen 4
   have u3:=hbk.lt
   have hown5:=HNC.out.2.2.2.2.2.1
   have HOWN5:=aa hown5
   have hne : ¬ (bo = g):=HNC.out.2.2.2.2.1.2.1
   have hbl : bo < wc.heap.size:=(World.ownsRow.lt hown5 _ rfl).2
   have hwx2:=HNC.out.1.size
   clear hown5 hbk
   go_region_law ((first
    | (go_simp; go_at_call 52; refine (aX v _ HZ2.out).mono ?_ ; rintro e w6 ⟨hb6,cs6,rfl,ht6⟩; obtain ⟨r0,r1,r2,r3,rA,rn,rc,rfl⟩:=ak ht6; have hg6:=af HNC.out.2.2.2.1.drew hb6; have HT6:=aa (aw ht6); have y1 : w6.cell? ⟨g,4,none⟩ = some (.slice (some ⟨bo,0,none⟩) n cap):=hg6.cell 4; have y2:=hg6.frozen 4; have y3:=hg6.lt; have HB6:=aa hb6; have hown6:=(Off.of_below hb6 []).own (World.ownsRow.drew HOWN5.out) (by simp); have hs6:=hb6.size; clear hg6)
    | (refine step_append_lies _ ?g1 (.tmp 20) (.tmp 24) 40 ?g2 w.heap.size 42 i0 _ 5 64 Tryz.underlying40 hi iz0 iz1 iz2 ?q1 ?q2 (.slice (some ⟨bo,0,none⟩) n cap) n css.flatten ?q3 (hown6.alloc _) ⟨w6.heap.size,0,none⟩ 1 1 [.int .i64 r0,.bool r1,.int .i64 r2,.string r3,.slice rA rn rc] ?q5 ?q6 ?q7 ?q8 ?q9 ?q10 ?q11 ?q12 (w6.heap.size + 1) ?q13 ?_; (case g1 => (rfl)); (case g2 => (rfl)); (case q1 => (rfl)); (case q2 => (omega)); (case q3 => (rfl)); (case q5 => (rfl)); (case q6 => (rfl)); (case q7 => (exact World.news_of_block (cs:=#[.int .i64 r0,.bool r1,.int .i64 r2,.string r3,.slice rA rn rc]) (heap_alloc_new w6 _))); (case q8 => (simp [Value.oneCell'])); (case q9 => (omega)); (case q10 => (unfold maxLen; omega)); (case q11 => (omega)); (case q12 => (simp at hs6 |-; omega)); (case q13 => (simp)); intro gg cap7 w7 hown7 hgrow7 hat7 hlt7; have hkg:=bC ⟨(aK y1 y2 y3 _).1,(aK y1 y2 y3 _).2⟩ hgrow7 (by simp [Value.ownBlock]; omega) (by simp; omega); have hkg1:=hkg.1; have hkg2:=hkg.2)
    | fail))
   all_goals
    have HN:=aa (NodeC.push HNC.out HB6.out ⟨rfl,HT6.out⟩ (by omega) hown7 hgrow7 hat7)
    clear hown7 hgrow7 hat7 hkg hkg1 hkg2 hown6 y1 y2 y3 u1 u2 u3
    have hbg:=HN.out.2.2.2.1
    have e0:=hbg.cell 0
    have e1:=hbg.cell 1
    have e2:=hbg.cell 2
    have e3:=hbg.cell 3
    have e4:=hbg.cell 4
    have elt:=hbg.lt
    have HZ9:=aa HN.out.2.2.1
    clear hbg
    go_wp2_with (first
     | (refine ap rfl 42 (.tmp 2) (.tmp 27) rfl (w.heap.size + 1) rfl #[.int .i64 0,.bool true,.int .i64 16,.string ⟨#[]⟩,.slice (some ⟨gg,0,none⟩) (n + 1) cap7] rfl 42 tz5 HZ9.out rfl (by kernel_rfl) (by simp [Value.oneCell']) (fun w9 hbk9 hof9 => ?_); have HOF9:=aa hof9; have r0':=hbk9.cell 0; have r1':=hbk9.cell 1; have r2':=hbk9.cell 2; have r3':=hbk9.cell 3; have r4':=hbk9.cell 4)
     | fail)
    exact bodyPost_ret (v:=.agg #[.int .i64 0,.bool true,.int .i64 16,.string ⟨#[]⟩,.slice (some ⟨gg,0,none⟩) (n + 1) cap7]) (by simp [results,Tryz.results22,go_sem,r0',r1',r2',r3',r4']) rfl (NodeC.done HN.out rfl rfl HOF9.out (by cases crit <;> rfl))
structure FilW (w wc : World) (k : Int) (fc : List Value) : Prop where
 size : wc.heap.size = w.heap.size + 3
 below : Below w.heap.size w wc
 box : Bk wc w.heap.size 25 fc.toArray
 res : Bk wc (w.heap.size + 1) 42 tz5
 val : Bk wc (w.heap.size + 2) 42 #[.int .i64 2,.bool true,.int .i64 k,.string ⟨#[]⟩,.slice none 0 0]
def filW (w : World) (k : Int) (fc : List Value) : World:=((w.alloc (.cells fc.toArray 25)).alloc (.cells tz5 42)).alloc (.cells #[.int .i64 2,.bool true,.int .i64 k,.string ⟨#[]⟩,.slice none 0 0] 42)
theorem filW_at (w : World) (k : Int) (fc : List Value) : FilW w (filW w k fc) k fc:=by
 have h1 : (w.alloc (.cells fc.toArray 25)).heap.size = w.heap.size + 1:=by simp
 have h2 : ((w.alloc (.cells fc.toArray 25)).alloc (.cells tz5 42)).heap.size = w.heap.size + 2:=by simp
 refine ⟨by simp [filW],(((Below.refl _ w).alloc (Nat.le_refl _) _).alloc (by simp) _).alloc (by simp; omega) _,((Bk.new w _ _).alloc _).alloc _,?_,?_⟩
 ·have:=(Bk.new (w.alloc (.cells fc.toArray 25)) 42 tz5).alloc (.cells #[.int .i64 2,.bool true,.int .i64 k,.string ⟨#[]⟩,.slice none 0 0] 42)
  rw [h1] at this
  exact this
 ·have:=Bk.new ((w.alloc (.cells fc.toArray 25)).alloc (.cells tz5 42)) 42 #[.int .i64 2,.bool true,.int .i64 k,.string ⟨#[]⟩,.slice none 0 0]
  rw [h2] at this
  exact this
theorem FilW.done {w wc w1 w9 : World} {k : Int} {fc : List Value} {q : Rw} {ts : List Tl} {g : Int} (h : FilW w wc k fc) (hb : Below wc.heap.size wc w1) (hq : RowOf 5 TlL w1 (fun x => wc.heap.size <= x) q ts) (hg : (Lit.int .i64 g).wf = true) (hof : Off [w.heap.size + 1,w.heap.size + 2] w1 w9) :
  RetT (.mk 2 true g ⟨#[]⟩ ts) w (.returned (.agg #[.int .i64 2,.bool true,.int .i64 g,.string ⟨#[]⟩,.slice q.A q.n q.c])) w9:=by
 have h1:=h.below.trans (hb.mono h.below.size)
 refine ⟨h1.trans (hof.below h1.size (by intro x hx; simp at hx; omega)),_,rfl,TlAt.keep hof.size (fun x hx hlt => hof.block x hlt ?_) (fun x hx _ => ?_) _ _ (bX 2 g true ⟨#[]⟩ hq rfl hg (Nat.zero_le _))⟩
 ·have hx : wc.heap.size <= x:=hx
  have:=h.size
  simp
  omega
 ·have hx : wc.heap.size <= x:=hx
  have:=h.size
  show w.heap.size <= x
  omega
theorem fil_many (k : Int) (a v f : ByteArray) (any : List ByteArray) (l : ByteArray) (kids : List Fl) (c : List Value) (S : Nat -> Prop) (w : World) (h : FlAt w S (.mk k a v f any l kids) c) (hk : k = 0 \/ k = 1 \/ k = 2) (hn : kids.length <= 1000000)
  (ih : ∀ y ∈ kids,∀ (W : World) (c : List Value),FlAt W S y c -> Calls Tryz.prog 99 #[.agg c.toArray] W (RetT (a8 y) W)) :
  Calls Tryz.prog 99 #[.agg c.toArray] w (RetT (.mk 2 true k ⟨#[]⟩ (cg kids)) w):=by
 unfold FlAt at h
 obtain ⟨⟨qA,qn,qc⟩,⟨rA,rn,rc⟩,rfl,⟨hw0,hz1,hz2,hz3,hz4⟩,hq,hr,hks⟩:=h
 simp only at hr hks |-
 have hrow : RowOf 7 FlAt w S ⟨rA,rn,rc⟩ kids:=eJ.2 ⟨hr,hks⟩
 obtain ⟨hr1,hr2,hr3⟩:=hr
 subst hr1
 obtain ⟨fc,hfc⟩ : ∃ fc : List Value,fc = [.int .i64 k,.string a,.string v,.string f,.slice qA qn qc,.string l,.slice rA kids.length rc]:=⟨_,rfl⟩
 have hW:=filW_at w k fc
 obtain ⟨wc,hwc⟩ : ∃ W,W = filW w k fc:=⟨_,rfl⟩
 rw [<- hwc] at hW
 have HW:=aa hW
 have HWC:=aa hwc
 unfold filW at HWC
 rw [hfc] at HWC hW
 have c0:=hW.box.cell 0
 have c6:=hW.box.cell 6
 have HOF:=aa fun (W : World) (hb : Below wc.heap.size wc W) => (show Calls Tryz.prog 105 #[.slice rA kids.length rc,.func (.func 99) #[] #[]] W (aN (cg kids) W) by
  have hbb:=hW.below.trans (hb.mono hW.below.size)
  rw [eV]
  exact of_fil rA rc kids S a8 W (RowOf.keep cB hrow (T:=S) hbb.size (fun x _ hlt => hbb.block x hlt) (fun _ h _ => h)) hn (fun y hy W' c' _ hat => ih y hy W' c' hat))
 have HWF:=aa hw0
 clear hwc hrow hks hq hW ih
 rcases hk with rfl | rfl | rfl
 all_goals
  go_enter Tryz.func99,Tryz.ntmps99
  go_upto_region 2 with (fail)
  rw [<- HWC.out]
  go_wp2_with (first
   | (go_at_call 105; refine (HOF.out _ (Below.refl _ _)).mono ?_; rintro e w1 ⟨hb1,q1,rfl,hq1⟩; have hg1:=af HW.out.val hb1; have e0:=hg1.cell 0; have e1:=hg1.cell 1; have e2:=hg1.cell 2; have e3:=hg1.cell 3; have e4:=hg1.cell 4; have f4:=hg1.frozen 4; have elt:=hg1.lt; have HZ1:=aa ((af HW.out.res hb1).far (p:=⟨w.heap.size + 2,4,none⟩) (by simp) (.slice q1.A q1.n q1.c)); have HB1:=aa hb1; have HQ1:=aa hq1; clear hb1 hg1 hq1)
   | (refine ap rfl 42 (.tmp 2) (.tmp 63) rfl (w.heap.size + 1) rfl #[.int .i64 2,.bool true,.int .i64 _,.string ⟨#[]⟩,.slice q1.A q1.n q1.c] rfl 42 tz5 HZ1.out rfl (by kernel_rfl) (by simp [Value.oneCell']) (fun w9 hbk9 hof9 => ?_); have HOF9:=aa hof9; have r0:=hbk9.cell 0; have r1:=hbk9.cell 1; have r2:=hbk9.cell 2; have r3:=hbk9.cell 3; have r4:=hbk9.cell 4)
   | fail)
  exact bodyPost_ret (v:=.agg #[.int .i64 2,.bool true,.int .i64 _,.string ⟨#[]⟩,.slice q1.A q1.n q1.c]) (by simp [results,Tryz.results99,go_sem,r0,r1,r2,r3,r4]) rfl (HW.out.done HB1.out HQ1.out HWF.out (((Off.refl [w.heap.size + 1,w.heap.size + 2] w1).setCell (.inl (by simp)) _).trans (HOF9.out.mono (by simp))))
theorem fil_has (a v f : ByteArray) (any : List ByteArray) (l : ByteArray) (kids : List Fl) (c : List Value) (S : Nat -> Prop) (w : World) (h : FlAt w S (.mk 7 a v f any l kids) c) :
  Calls Tryz.prog 99 #[.agg c.toArray] w (RetT (town 7 a) w):=by
 unfold FlAt at h
 obtain ⟨⟨qA,qn,qc⟩,⟨rA,rn,rc⟩,rfl,⟨hw0,hz1,hz2,hz3,hz4⟩,hq,hr,hks⟩:=h
 simp only at hr hks hq |-
 obtain ⟨fc,hfc⟩ : ∃ fc : List Value,fc = [.int .i64 7,.string a,.string v,.string f,.slice qA qn qc,.string l,.slice rA rn rc]:=⟨_,rfl⟩
 have hW:=filW_at w 7 fc
 obtain ⟨wc,hwc⟩ : ∃ W,W = filW w 7 fc:=⟨_,rfl⟩
 rw [<- hwc] at hW
 have HW:=aa hW
 have HWC:=aa hwc
 unfold filW at HWC
 rw [hfc] at HWC hW
 have HFC:=aa hfc
 have hbx : Bk wc w.heap.size 25 #[.int .i64 7,.string a,.string v,.string f,.slice qA qn qc,.string l,.slice rA rn rc]:=hW.box
 have HBX:=aa hbx
 have c0:=hbx.cell 0
 have c1:=hbx.cell 1
 have c2:=hbx.cell 2
 have c3:=hbx.cell 3
 have HSZ:=aa hW.size
 have HZ1:=aa hz1
 have HZ2:=aa hz2
 have HZ3:=aa hz3
 have HZ4:=aa hz4
 have HWF:=aa hw0
 clear hwc hks hq hr hW hbx hz1 hz2 hz3 hz4 hw0 hfc
 go_enter Tryz.func99,Tryz.ntmps99
 go_upto_region 2 with (fail)
 rw [<- HWC.out]
 go_wp2_with (first
  | (go_at_call 84; refine (ee 7 a _ rfl HZ1.out).mono ?_; rintro e w1 ⟨hb1,cs1,rfl,ht1⟩; obtain ⟨a0,a1,a2,a3,aA,an,ac,rfl⟩:=ak ht1; have HR1:=aa (af HW.out.res hb1); have HB1:=aa hb1; have HT1:=aa (aw ht1); clear hb1 ht1)
  | (refine ap rfl 42 (.tmp 2) (.tmp 30) rfl (w.heap.size + 1) rfl #[.int .i64 a0,.bool a1,.int .i64 a2,.string a3,.slice aA an ac] rfl 42 tz5 HR1.out rfl (by kernel_rfl) (by simp [Value.oneCell']) (fun w9 hbk9 hof9 => ?_); have HOF9:=aa hof9; have r0:=hbk9.cell 0; have r1:=hbk9.cell 1; have r2:=hbk9.cell 2; have r3:=hbk9.cell 3; have r4:=hbk9.cell 4)
  | fail)
 have h1:=HW.out.below.trans (HB1.out.mono HW.out.below.size)
 exact bodyPost_ret (v:=.agg #[.int .i64 a0,.bool a1,.int .i64 a2,.string a3,.slice aA an ac]) (by simp [results,Tryz.results99,go_sem,r0,r1,r2,r3,r4]) rfl ⟨h1.trans (HOF9.out.below h1.size (by simp)),_,rfl,HT1.out _ _⟩
theorem fil_pair (k : Int) (a v f : ByteArray) (any : List ByteArray) (l : ByteArray) (kids : List Fl) (c : List Value) (S : Nat -> Prop) (w : World) (h : FlAt w S (.mk k a v f any l kids) c) (hk : k = 3 \/ k = 5 \/ k = 6 \/ k = 8) :
  Calls Tryz.prog 99 #[.agg c.toArray] w (RetT (.mk 2 true k ⟨#[]⟩ [tstr a,tstr v]) w):=by
 unfold FlAt at h
 obtain ⟨⟨qA,qn,qc⟩,⟨rA,rn,rc⟩,rfl,⟨hw0,hz1,hz2,hz3,hz4⟩,hq,hr,hks⟩:=h
 simp only at hr hks hq |-
 obtain ⟨fc,hfc⟩ : ∃ fc : List Value,fc = [.int .i64 k,.string a,.string v,.string f,.slice qA qn qc,.string l,.slice rA rn rc]:=⟨_,rfl⟩
 have hW:=filW_at w k fc
 obtain ⟨wc,hwc⟩ : ∃ W,W = filW w k fc:=⟨_,rfl⟩
 rw [<- hwc] at hW
 have HW:=aa hW
 have HWC:=aa hwc
 unfold filW at HWC
 rw [hfc] at HWC hW
 have HFC:=aa hfc
 have hbx : Bk wc w.heap.size 25 #[.int .i64 k,.string a,.string v,.string f,.slice qA qn qc,.string l,.slice rA rn rc]:=hW.box
 have HBX:=aa hbx
 have c0:=hbx.cell 0
 have c1:=hbx.cell 1
 have c2:=hbx.cell 2
 have c3:=hbx.cell 3
 have HSZ:=aa hW.size
 have HZ1:=aa hz1
 have HZ2:=aa hz2
 have HZ3:=aa hz3
 have HZ4:=aa hz4
 have HWF:=aa hw0
 have HT_a:=aa fun (W : World) => aX a W hz1
 have HT_v:=aa fun (W : World) => aX v W hz2
 have HBR:=aa (Below.refl wc.heap.size wc).drew
 have HKF:=aa fun (W : World) (hk : Bk W w.heap.size 25 #[.int .i64 k,.string a,.string v,.string f,.slice qA qn qc,.string l,.slice rA rn rc]) (hb : Below w.heap.size w W) => (show W.cell? ⟨w.heap.size,1,none⟩ = some (.string a) /\ W.cell? ⟨w.heap.size,2,none⟩ = some (.string v) /\ Below w.heap.size w W from
  ⟨hk.cell 1,hk.cell 2,hb⟩)
 have HKS:=aa fun (W : World) (hb : Below wc.heap.size wc W) => HKF.out W (af hbx hb) (hW.below.trans (hb.mono hW.below.size))
 clear hwc hks hq hr hW hbx hz1 hz2 hz3 hz4 hw0 hfc
 rcases hk with rfl | rfl | rfl | rfl
 all_goals
  go_enter Tryz.func99,Tryz.ntmps99
  go_upto_region 2 with (fail)
  rw [<- HWC.out]
  go_wp2_with fail
  go_region_held3 (fun W => W.cell? ⟨w.heap.size,1,none⟩ = some (.string a) /\ W.cell? ⟨w.heap.size,2,none⟩ = some (.string v) /\ Below w.heap.size w W)
   (first | (with_reducible exact HSF) | (with_reducible exact HKS.out _ HBR.out) | (with_reducible exact HKS.out _ (by assumption)) | (with_reducible exact HKS.out _ hn3))
   (first
    | (go_at_call 52; (with_reducible refine (HT_a.out _).mono ?_); rintro e w1 ⟨hb1,cs1,rfl,ht1⟩; obtain ⟨a10,a11,a12,a13,a1A,a1n,a1c,rfl⟩:=ak ht1; have hn1:=ag HBR.out hb1)
    | (go_at_call 52; (with_reducible refine (HT_v.out _).mono ?_); rintro e w2 ⟨hb2,cs2,rfl,ht2⟩; obtain ⟨a20,a21,a22,a23,a2A,a2n,a2c,rfl⟩:=ak ht2; have hn2:=ag hn1 hb2; have hn3:=bel1 hn2 (.cells #[.int .i64 a10,.bool a11,.int .i64 a12,.string a13,.slice a1A a1n a1c,.int .i64 a20,.bool a21,.int .i64 a22,.string a23,.slice a2A a2n a2c] 42); have hg3:=af HW.out.val hn3; have hg2:=af HW.out.val hn2; have y4 : w2.cell? ⟨w.heap.size + 1 + 1,4,none⟩ = some (.slice none 0 0):=hg2.cell 4; have y4f : w2.frozen? ⟨w.heap.size + 1 + 1,4,none⟩ = false:=hg2.frozen 4; have y4l : w.heap.size + 1 + 1 < w2.heap.size:=hg2.lt; have hk8:=(af HBX.out hn3).far (p:=⟨w.heap.size + 1 + 1,4,none⟩) (by simp; omega) (.slice (some ⟨w2.heap.size,0,none⟩) 2 2); have hb8:=(HW.out.below.trans (hn3.mono HW.out.below.size)).setCell (p:=⟨w.heap.size + 1 + 1,4,none⟩) (by simp; omega) (.slice (some ⟨w2.heap.size,0,none⟩) 2 2); rw [World.setCell_alloc_past _ _ _ _ y4l] at hk8 hb8; have HSF:=HKF.out _ hk8 hb8)
    | fail)
  all_goals
   have hs1:=hn1.size
   have HROW:=aa (fg (w8:=w2) (B:=wc.heap.size) (n:=2) (ts:=[tstr a,tstr v]) [[.int .i64 a10,.bool a11,.int .i64 a12,.string a13,.slice a1A a1n a1c],[.int .i64 a20,.bool a21,.int .i64 a22,.string a23,.slice a2A a2n a2c]] #[.int .i64 a10,.bool a11,.int .i64 a12,.string a13,.slice a1A a1n a1c,.int .i64 a20,.bool a21,.int .i64 a22,.string a23,.slice a2A a2n a2c] hn2.size rfl
    ⟨⟨rfl,TlAt.up ht1 hb2 (Nat.le_refl _)⟩,⟨rfl,TlAt.up ht2 (Below.refl _ _) hs1⟩,trivial⟩ rfl (by omega))
   have HN3:=aa hn3
   have HOF:=aa ((Off.refl [w.heap.size + 1,w.heap.size + 2] _).setCell (w:=w2.alloc (.cells #[.int .i64 a10,.bool a11,.int .i64 a12,.string a13,.slice a1A a1n a1c,.int .i64 a20,.bool a21,.int .i64 a22,.string a23,.slice a2A a2n a2c] 42)) (p:=⟨w.heap.size + 1 + 1,4,none⟩) (.inl (by simp)) (.slice (some ⟨w2.heap.size,0,none⟩) 2 2))
   have hg8:=hg3.put 4 (.slice (some ⟨w2.heap.size,0,none⟩) 2 2)
   have hz8:=(af HW.out.res hn3).far (p:=⟨w.heap.size + 1 + 1,4,none⟩) (by simp) (.slice (some ⟨w2.heap.size,0,none⟩) 2 2)
   rw [show w.heap.size + 2 = w.heap.size + 1 + 1 from rfl,World.setCell_alloc_past _ _ _ _ y4l] at hg8
   rw [World.setCell_alloc_past _ _ _ _ y4l] at hz8 HOF
   have e0:=hg8.cell 0
   have e1:=hg8.cell 1
   have e2:=hg8.cell 2
   have e3:=hg8.cell 3
   have e4:=hg8.cell 4
   have elt:=hg8.lt
   have HZ8:=aa hz8
   clear hz8 hg8 hg3 hg2 hk8 hb8 HSF hn1 hn2 hn3 ht1 ht2 hb1 hb2 hs1 y4 y4f y4l
   go_wp2_with (first
    | (refine ap rfl 42 (.tmp 2) (.tmp 63) rfl (w.heap.size + 1) rfl #[.int .i64 2,.bool true,.int .i64 _,.string ⟨#[]⟩,.slice (some ⟨w2.heap.size,0,none⟩) 2 2] rfl 42 tz5 HZ8.out rfl (by kernel_rfl) (by simp [Value.oneCell']) (fun w9 hbk9 hof9 => ?_); have HOF9:=aa hof9; have r0:=hbk9.cell 0; have r1:=hbk9.cell 1; have r2:=hbk9.cell 2; have r3:=hbk9.cell 3; have r4:=hbk9.cell 4)
    | fail)
   exact bodyPost_ret (v:=.agg #[.int .i64 2,.bool true,.int .i64 _,.string ⟨#[]⟩,.slice (some ⟨w2.heap.size,0,none⟩) 2 2]) (by simp [results,Tryz.results99,go_sem,r0,r1,r2,r3,r4]) rfl (HW.out.done (q:=⟨some ⟨w2.heap.size,0,none⟩,2,2⟩) HN3.out HROW.out HWF.out (HOF.out.trans (HOF9.out.mono (by simp))))
theorem ba {ops : Array Oper} {rest : List Oper} {o : Oper} {a : Act} {Q : Exit -> Act -> World -> Prop} {w : World} (hgd : o.guard = none) (s x : Operand)
  (ho : o.op = .call { callee:=.builtin .append,args:=#[s,x],argTypes:=#[40,40] }) (hty : o.type = 40)
  (B : Nat) (v : Value) (ds : List Tl) (hs : a.eval s = v) (hG : TGrow w B v ds) (q : Rw) (ts : List Tl) (hx : a.eval x = .slice q.A q.n q.c) (hq : RowOf 5 TlL w (fun b => B <= b /\ v.ownBlock ≠ some b) q ts) (hlen : ds.length + ts.length <= 1100000) (hB : B <= w.heap.size)
  (h : ∀ A n c w',TGrow w' B (.slice A n c) (ds ++ ts) -> w.grownBy w' v.ownBlock -> wpList Tryz.prog ops Q rest (a.put o.dst (.slice A n c)) w') : wpList Tryz.prog ops Q (o :: rest) a w :=
 eM hgd s x ho hty B v ds hs hG q ts hx hq hlen hB fun A c w' h2 h3 _ => h A _ c w' h2 h3
theorem fil_part (a v f : ByteArray) (any : List ByteArray) (l : ByteArray) (kids : List Fl) (c : List Value) (S : Nat -> Prop) (w : World) (h : FlAt w S (.mk 4 a v f any l kids) c) (hn : any.length <= 1000000) :
  Calls Tryz.prog 99 #[.agg c.toArray] w (RetT (.mk 2 true 4 ⟨#[]⟩ [tstr a,aI (aF f any l)]) w):=by
 unfold FlAt at h
 obtain ⟨⟨qA,qn,qc⟩,⟨rA,rn,rc⟩,rfl,⟨hw0,hz1,hz2,hz3,hz4⟩,hq,hr,hks⟩:=h
 simp only at hr hks hq |-
 obtain ⟨fc,hfc⟩ : ∃ fc : List Value,fc = [.int .i64 4,.string a,.string v,.string f,.slice qA qn qc,.string l,.slice rA rn rc]:=⟨_,rfl⟩
 have hW:=filW_at w 4 fc
 obtain ⟨wz,hwc⟩ : ∃ W,W = filW w 4 fc:=⟨_,rfl⟩
 rw [<- hwc] at hW
 have HW:=aa hW
 have HWC:=aa hwc
 unfold filW at HWC
 rw [hfc] at HWC hW
 have HFC:=aa hfc
 have hbx : Bk wz w.heap.size 25 #[.int .i64 4,.string a,.string v,.string f,.slice qA qn qc,.string l,.slice rA rn rc]:=hW.box
 have HBX:=aa hbx
 have c0:=hbx.cell 0
 have c1:=hbx.cell 1
 have c2:=hbx.cell 2
 have c3:=hbx.cell 3
 have HSZ:=aa hW.size
 have HZ1:=aa hz1
 have HZ2:=aa hz2
 have HZ3:=aa hz3
 have HZ4:=aa hz4
 have HWF:=aa hw0
 have c4:=hbx.cell 4
 have c5:=hbx.cell 5
 have HOF:=aa fun (W : World) (hb : Below wz.heap.size wz W) => (show Calls Tryz.prog 82 #[.slice qA qn qc,.func (.func 106) #[] #[]] W (aN (any.map (town 1)) W) by
  have hbb:=hW.below.trans (hb.mono hW.below.size)
  have hq':=RowOf.keep al hq (T:=S) hbb.size (fun x _ hlt => hbb.block x hlt) (fun _ h _ => h)
  have:=of_any qA qc any (town 1) W (cX hq') hn (fun s hs W' => fil1_t s W' (eh hq' s hs))
  rw [<- hq.1] at this
  exact this)
 clear hwc hks hq hr hW hbx hz1 hz2 hz3 hz4 hw0 hfc
 go_enter Tryz.func99,Tryz.ntmps99
 go_upto_region 2 with (fail)
 rw [<- HWC.out]
 go_upto_if 35 with (fail)
 go_cut [4] from 35 to 41 (fun v9 wx => ∃ (A : Option Addr) (n cp : Nat),v9 = .slice A n cp /\ Below wz.heap.size wz wx /\ TGrow wx wz.heap.size (.slice A n cp) (if aj f then [town 0 f] else []))
 case first =>
  by_cases hf : f.toList.isEmpty = true
  ·have hf2 : aj f = false:=by unfold aj; rw [hf]; rfl
   rw [hf]
   go_wp2_with fail
   go_meet
   exact ⟨none,0,0,rfl,Below.refl _ _,by rw [hf2]; exact GRow.nil _ _⟩
  ·have hf' : f.toList.isEmpty = false:=by simpa using hf
   have hf2 : aj f = true:=by unfold aj; rw [hf']; rfl
   clear hf
   rw [hf']
   go_wp2_with (first
    | (go_at_call 84; refine (ee 0 f _ rfl HZ3.out).mono ?_; rintro e w1 ⟨hb1,cs1,rfl,ht1⟩; obtain ⟨a0,a1,a2,a3,aA,an,ac,rfl⟩:=ak ht1; have hs1:=hb1.size; have HB1:=aa hb1; have HT1:=aa (aw ht1))
    | (at_builtin; refine ba rfl (.tmp 36) (.tmp 40) rfl rfl wz.heap.size (.slice none 0 0) [] rfl (GRow.nil _ _) ⟨some ⟨w1.heap.size,0,none⟩,1,1⟩ [town 0 f] rfl (one_row (Bk.new w1 _ _) ⟨hs1,by simp [Value.ownBlock]⟩ (HT1.out _ _)) (by simp) (by simp; omega) ?_; intro A7 n7 c7 w7 hG7 hgr7; have HG7:=aa hG7; have hb7:=(HB1.out.alloc hs1 _).grown hgr7 (by simp; omega) (fun x hx => by simp [Value.ownBlock] at hx); have HB7:=aa hb7; clear hG7 hgr7 hb7)
    | fail)
   go_meet
   exact ⟨A7,_,c7,rfl,HB7.out,by rw [hf2]; exact HG7.out⟩
 case rest =>
  obtain ⟨A,n,cp,rfl,hb2,hG2⟩:=hcut
  have hk2:=af HBX.out hb2
  have p4 : wc.cell? ⟨w.heap.size,4,none⟩ = some (.slice qA qn qc):=hk2.cell 4
  have hl2:=hk2.lt
  obtain ⟨fs,hfs⟩ : ∃ fs : List Tl,fs = (if aj f then [town 0 f] else []):=⟨_,rfl⟩
  have hdl : fs.length <= 1:=by rw [hfs]; split <;> simp
  rw [<- hfs] at hG2
  have HFS:=aa hfs
  have HB2:=aa hb2
  have HG2:=aa hG2
  clear hfs
  have HOF2:=aa (HOF.out _ hb2)
  have HN:=aa hn
  clear hk2 hb2 hG2
  go_upto_if 49 with (first
   | (go_at_call 82; refine HOF2.out.mono ?_; rintro e w4 ⟨hb4,q4,rfl,hq4⟩; have hs4:=hb4.size; have hs2:=HB2.out.size; have HB4:=aa hb4; have HQ4:=aa hq4; clear hb4 hq4)
   | (at_builtin; refine ba rfl (.tmp 42) (.tmp 45) rfl rfl wz.heap.size (.slice A n cp) _ rfl (GRow.below au HG2.out HB4.out) q4 _ rfl (RowOf.keep au HQ4.out (Nat.le_refl _) (fun _ _ _ => rfl) (fun x hx hlt => ⟨Nat.le_trans hs2 hx,fun e => by have h1:=(GRow.lt HG2.out x e).2; have hx : wc.heap.size <= x:=hx; omega⟩)) (by have:=HN.out; simp only [List.length_map]; omega) (by omega) ?_; intro A7 n7 c7 w7 hG7 hgr7; have HG7:=aa hG7; have hb7:=(HB2.out.trans (HB4.out.mono hs2)).grown hgr7 (by omega) (fun x hx => by have:=(GRow.lt HG2.out x hx).1; exact this); have HB7:=aa hb7; have hk7:=af HBX.out hb7; have p5 : w7.cell? ⟨w.heap.size,5,none⟩ = some (.string l):=hk7.cell 5; have hl7:=hk7.lt; clear hG7 hgr7 hb7 hk7)
   | fail)
  go_cut [4] from 49 to 55 (fun v9 wx => ∃ (A : Option Addr) (n cp : Nat),v9 = .slice A n cp /\ Below wz.heap.size wz wx /\ TGrow wx wz.heap.size (.slice A n cp) (aF f any l))
  case first =>
   by_cases hf : l.toList.isEmpty = true
   ·have hf2 : aj l = false:=by unfold aj; rw [hf]; rfl
    rw [hf]
    go_wp2_with fail
    go_meet
    exact ⟨A7,_,c7,rfl,HB7.out,by unfold aF; rw [hf2,<- HFS.out]; simpa using HG7.out⟩
   ·have hf' : l.toList.isEmpty = false:=by simpa using hf
    have hf2 : aj l = true:=by unfold aj; rw [hf']; rfl
    clear hf
    rw [hf']
    have hd7 : (fs ++ any.map (town 1)).length <= 1000001:=by have:=HN.out; simp only [List.length_append,List.length_map]; omega
    go_wp2_with (first
     | (go_at_call 84; refine (ee 2 l _ rfl HZ4.out).mono ?_; rintro e w1 ⟨hb1,cs1,rfl,ht1⟩; obtain ⟨a0,a1,a2,a3,aA,an,ac,rfl⟩:=ak ht1; have hs1:=hb1.size; have hs7:=HB7.out.size; have HB1:=aa hb1; have HT1:=aa (aw ht1); clear hb1 ht1)
     | (at_builtin; refine ba rfl (.tmp 50) (.tmp 54) rfl rfl wz.heap.size (.slice A7 n7 c7) (fs ++ any.map (town 1)) rfl (GRow.below au (GRow.below au HG7.out HB1.out) ((Below.refl _ _).alloc (Nat.le_refl _) _)) ⟨some ⟨w1.heap.size,0,none⟩,1,1⟩ [town 2 l] rfl (one_row (Bk.new w1 _ _) ⟨by omega,fun e => by have:=(GRow.lt HG7.out _ e).2; omega⟩ (HT1.out _ _)) (by simp only [List.length_singleton]; omega) (by simp; omega) ?_; intro A8 n8 c8 w8 hG8 hgr8; have HG8:=aa hG8; have hb8:=((HB7.out.trans (HB1.out.mono hs7)).alloc (by omega) _).grown hgr8 (by simp; omega) (fun x hx => (GRow.lt HG7.out x hx).1); have HB8:=aa hb8; clear hG8 hgr8 hb8)
     | fail)
    go_meet
    exact ⟨A8,_,c8,rfl,HB8.out,by unfold aF; rw [hf2,<- HFS.out]; simpa using HG8.out⟩
  case rest =>
   obtain ⟨A9,n9,cp9,rfl,hb9,hG9⟩:=hcut
   have hk9:=af HBX.out hb9
   have p1 : wc.cell? ⟨w.heap.size,1,none⟩ = some (.string a):=hk9.cell 1
   have hl9:=hk9.lt
   have HB9:=aa hb9
   have HG9:=aa hG9
   clear hk9 hb9 hG9
   go_wp2_with (first
    | (go_at_call 52; refine (aX a _ HZ1.out).mono ?_; rintro e w1 ⟨hb1,cs1,rfl,ht1⟩; obtain ⟨a0,a1,a2,a3,aA,an,ac,rfl⟩:=ak ht1; have HB1:=aa hb1; have HT1:=aa (aw ht1); clear hb1 ht1)
    | (go_at_call 18; refine (bD _ _ _ _).mono ?_; rintro e w2 ⟨rfl,hb2⟩; have hn2:=HB9.out.trans ((HB1.out.trans (hb2.mono HB1.out.size)).mono HB9.out.size); have HN2:=aa hn2; have HN3:=aa (hn2.alloc hn2.size (.cells #[.int .i64 a0,.bool a1,.int .i64 a2,.string a3,.slice aA an ac,.int .i64 0,.bool true,.int .i64 16,.string ⟨#[]⟩,.slice A9 n9 cp9] 42)); have HGL:=aa (GRow.below au (GRow.below au HG9.out HB1.out) hb2); have hg2:=af HW.out.val hn2; have y4 : w2.cell? ⟨w.heap.size + 1 + 1,4,none⟩ = some (.slice none 0 0):=hg2.cell 4; have y4f : w2.frozen? ⟨w.heap.size + 1 + 1,4,none⟩ = false:=hg2.frozen 4; have y4l : w.heap.size + 1 + 1 < w2.heap.size:=hg2.lt; have hg8:=(hg2.alloc (.cells #[.int .i64 a0,.bool a1,.int .i64 a2,.string a3,.slice aA an ac,.int .i64 0,.bool true,.int .i64 16,.string ⟨#[]⟩,.slice A9 n9 cp9] 42)).put 4 (.slice (some ⟨w2.heap.size,0,none⟩) 2 2); have hz8:=(af HW.out.res HN3.out).far (p:=⟨w.heap.size + 1 + 1,4,none⟩) (by simp) (.slice (some ⟨w2.heap.size,0,none⟩) 2 2); have HOF8:=aa ((Off.refl [w.heap.size + 1,w.heap.size + 2] _).setCell (w:=w2.alloc (.cells #[.int .i64 a0,.bool a1,.int .i64 a2,.string a3,.slice aA an ac,.int .i64 0,.bool true,.int .i64 16,.string ⟨#[]⟩,.slice A9 n9 cp9] 42)) (p:=⟨w.heap.size + 1 + 1,4,none⟩) (.inl (by simp)) (.slice (some ⟨w2.heap.size,0,none⟩) 2 2)); rw [show w.heap.size + 2 = w.heap.size + 1 + 1 from rfl,World.setCell_alloc_past _ _ _ _ y4l] at hg8; rw [World.setCell_alloc_past _ _ _ _ y4l] at hz8 HOF8; have e0:=hg8.cell 0; have e1:=hg8.cell 1; have e2:=hg8.cell 2; have e3:=hg8.cell 3; have e4:=hg8.cell 4; have elt:=hg8.lt; have HZ8:=aa hz8; clear hz8 hg8 hg2 hn2 hb2)
    | (refine ap rfl 42 (.tmp 2) (.tmp 63) rfl (w.heap.size + 1) rfl #[.int .i64 2,.bool true,.int .i64 4,.string ⟨#[]⟩,.slice (some ⟨w2.heap.size,0,none⟩) 2 2] rfl 42 tz5 HZ8.out rfl (by kernel_rfl) (by simp [Value.oneCell']) (fun w9 hbk9 hof9 => ?_); have HOF9:=aa hof9; have r0:=hbk9.cell 0; have r1:=hbk9.cell 1; have r2:=hbk9.cell 2; have r3:=hbk9.cell 3; have r4:=hbk9.cell 4)
    | fail)
   have HROW:=aa (fg (w8:=w2) (B:=wz.heap.size) (n:=2) (ts:=[tstr a,aI (aF f any l)]) [[.int .i64 a0,.bool a1,.int .i64 a2,.string a3,.slice aA an ac],[.int .i64 0,.bool true,.int .i64 16,.string ⟨#[]⟩,.slice A9 n9 cp9]] #[.int .i64 a0,.bool a1,.int .i64 a2,.string a3,.slice aA an ac,.int .i64 0,.bool true,.int .i64 16,.string ⟨#[]⟩,.slice A9 n9 cp9] HN2.out.size rfl
    ⟨⟨rfl,HT1.out _ _⟩,⟨rfl,grow_at 0 16 HGL.out rfl rfl⟩,trivial⟩ rfl (by omega))
   exact bodyPost_ret (v:=.agg #[.int .i64 2,.bool true,.int .i64 4,.string ⟨#[]⟩,.slice (some ⟨w2.heap.size,0,none⟩) 2 2]) (by simp [results,Tryz.results99,go_sem,r0,r1,r2,r3,r4]) rfl (HW.out.done (q:=⟨some ⟨w2.heap.size,0,none⟩,2,2⟩) HN3.out HROW.out HWF.out (HOF8.out.trans (HOF9.out.mono (by simp))))
mutual
def Fl.slim : Fl -> Prop
 | .mk _ _ _ _ any _ kids => any.length <= 1000000 /\ kids.length <= 1000000 /\ Fl.slims kids
def Fl.slims : List Fl -> Prop
 | [] => True
 | k :: ks => k.slim /\ Fl.slims ks
end
def FilDo (f : Fl) : Prop:=∀ (c : List Value) (S : Nat -> Prop) (w : World),FlAt w S f c -> Calls Tryz.prog 99 #[.agg c.toArray] w (RetT (a8 f) w)
mutual
theorem fil_do : ∀ (f : Fl) (d x : Int),0 <= f.cnt d x -> f.slim -> FilDo f
 | .mk k a v g any l kids,d,x,hc,hs => by
  intro c S w h
  obtain ⟨ho,hk⟩:=Fl.cnt_one hc
  have ih:=fils_do kids (d + 1) (x - 1) hk hs.2.2
  simp only [Fl.one] at ho
  unfold a8
  by_cases h01 : k = 0 \/ k = 1
  ·rw [if_pos (by omega)]
   exact fil_many k a v g any l kids c S w h (by omega) hs.2.1 (fun y hy W c hat => ih y hy c S W hat)
  rw [if_neg h01] at ho
  by_cases h2 : k = 2
  ·rw [if_pos (by omega)]
   exact fil_many k a v g any l kids c S w h (by omega) hs.2.1 (fun y hy W c hat => ih y hy c S W hat)
  rw [if_neg h2] at ho
  rw [if_neg (by omega)]
  by_cases h3 : k = 3 \/ k = 5 \/ k = 6 \/ k = 8
  ·rw [if_neg (by omega),if_neg (by omega)]
   exact fil_pair k a v g any l kids c S w h h3
  rw [if_neg h3] at ho
  by_cases h7 : k = 7
  ·subst h7
   rw [if_pos rfl]
   exact fil_has a v g any l kids c S w h
  rw [if_neg h7] at ho |-
  by_cases h4 : k = 4
  ·subst h4
   rw [if_pos rfl]
   exact fil_part a v g any l kids c S w h hs.1
  ·rw [if_neg h4] at ho
   cases ho
theorem fils_do : ∀ (ks : List Fl) (d x : Int),0 <= Fl.cnts ks d x -> Fl.slims ks -> ∀ y ∈ ks,FilDo y
 | [],_,_,_,_,y,hy => by cases hy
 | k :: ks,d,x,hc,hs,y,hy => by
  unfold Fl.cnts at hc
  by_cases hn : k.cnt d x < 0
  ·rw [if_pos hn] at hc; omega
  ·rw [if_neg hn] at hc
   have h1:=fil_do k d x (by omega) hs.1
   have h2:=fils_do ks d _ hc hs.2
   rcases List.mem_cons.1 hy with rfl | hy
   ·exact h1
   ·exact h2 y hy
end
mutual
theorem Fl.cnt_slim : ∀ (f : Fl) (d x : Int),0 <= f.cnt d x -> x <= 1000000 -> f.slim /\ f.cnt d x < x
 | .mk k a v g any l kids,d,x,hc,hx => by
  obtain ⟨ho,hk⟩:=Fl.cnt_one hc
  have ih:=Fl.cnts_slim kids (d + 1) (x - 1) hk (by omega)
  have hany : any.length <= 8:=by
   simp only [Fl.one] at ho
   by_cases h01 : k = 0 \/ k = 1
   ·rw [if_pos h01] at ho; have:=(bZ ho).2.2.2.1; omega
   rw [if_neg h01] at ho
   by_cases h2 : k = 2
   ·rw [if_pos h2] at ho; simp only [Bool.and_eq_true] at ho; have:=(bZ ho.1).2.2.2.1; omega
   rw [if_neg h2] at ho
   by_cases h3 : k = 3 \/ k = 5 \/ k = 6 \/ k = 8
   ·rw [if_pos h3] at ho; simp only [Bool.and_eq_true] at ho; have:=(bZ ho.1).2.2.2.1; omega
   rw [if_neg h3] at ho
   by_cases h7 : k = 7
   ·rw [if_pos h7] at ho; simp only [Bool.and_eq_true] at ho; have:=(bZ ho.1).2.2.2.1; omega
   rw [if_neg h7] at ho
   by_cases h4 : k = 4
   ·rw [if_pos h4] at ho; simp only [Bool.and_eq_true,decide_eq_true_eq] at ho; exact ho.2.1
   ·rw [if_neg h4] at ho; cases ho
  have he : Fl.cnt (.mk k a v g any l kids) d x = Fl.cnts kids (d + 1) (x - 1):=by
   unfold Fl.cnt at hc |-
   by_cases hn : x - 1 < 0 \/ 8 < d \/ Fl.one (.mk k a v g any l kids) = false
   ·rw [if_pos hn] at hc; omega
   ·rw [if_neg hn]
  refine ⟨?_,by rw [he]; have:=ih.2.1; have:=ih.2.2; omega⟩
  unfold Fl.slim
  exact ⟨by omega,by have:=ih.2.2; omega,ih.1⟩
theorem Fl.cnts_slim : ∀ (ks : List Fl) (d x : Int),0 <= Fl.cnts ks d x -> x <= 1000000 -> Fl.slims ks /\ Fl.cnts ks d x <= x /\ (ks.length : Int) <= x - Fl.cnts ks d x
 | [],_,x,h,hx => by unfold Fl.cnts Fl.slims; simp
 | k :: ks,d,x,hc,hx => by
  unfold Fl.cnts at hc |-
  by_cases hn : k.cnt d x < 0
  ·rw [if_pos hn] at hc; omega
  ·rw [if_neg hn] at hc |-
   have h1:=Fl.cnt_slim k d x (by omega) hx
   have h2:=Fl.cnts_slim ks d _ hc (by omega)
   unfold Fl.slims
   refine ⟨⟨h1.1,h2.1⟩,by omega,?_⟩
   have:=h1.2
   have:=h2.2.2
   simp
   omega
end
theorem fil_right (f : Fl) (h : f.right = true) : FilDo f:=by
 have hc : 0 <= f.cnt 1 40:=by simpa [Fl.right] using h
 exact fil_do f 1 40 hc (Fl.cnt_slim f 1 40 hc (by omega)).1
end Go.Proofs.YtbiglfpikfjbpaaGreatDoor
