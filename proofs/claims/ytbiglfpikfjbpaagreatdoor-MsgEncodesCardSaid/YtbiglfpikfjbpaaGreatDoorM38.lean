import Derived.Test.YtbiglfpikfjbpaaGreatDoorM36
import Derived.Test.YtbiglfpikfjbpaaGreatDoorM37
import Derived.Deep.CutBlock
namespace Go.Proofs.YtbiglfpikfjbpaaGreatDoor
open Go.RowKit
open Go.PlainAid
set_option maxRecDepth 100000
set_option linter.unusedVariables false
set_option linter.unusedSimpArgs false
set_option maxHeartbeats 40000000
theorem cat {a b : ByteArray} {la lb : List UInt8} (ha : a.data.toList = la) (hb : b.data.toList = lb) (h : la.length + lb.length < 1000000000) :
  ∃ c : ByteArray,Hid (c.data.toList = la ++ lb) /\ ∀ W : World,(Op.stringOp .add a b).run Tryz.prog W = .ok (.string c) W:=by
 subst ha hb
 have e1 : a.data.toList.length = a.size:=rfl
 have e2 : b.data.toList.length = b.size:=rfl
 refine ⟨a ++ b,by unfold Hid; exact aP a b,fun W => ?_⟩
 have hz : ¬ 9223372036854775807 < a.size + b.size:=by omega
 go_simp
theorem bf (s : ByteArray) (W : World) (hs : s.size < 16000000) : Calls Tryz.prog 26 #[.string s] W (RefS (PB.enc (tstr s)) W):=by
 rw [du]; exact dd s W (by omega)
theorem enc_tnum (g n : Nat) : PB.enc (tnum g n) = tlvB (bl 0 false g) (PB.ofNum n):=by
 have h:=fG 0 g ⟨(PB.ofNum n).toArray⟩
 exact h
theorem fe (g n : Int) (W : World) (hg : 0 <= g /\ g <= 30) (hn : 0 <= n /\ n < 2147483648) : Calls Tryz.prog 24 #[.int .i64 g,.int .i64 n] W (RefS (PB.enc (tnum g n)) W):=by
 obtain ⟨g',rfl⟩ : ∃ k : Nat,g = k:=⟨g.toNat,by omega⟩
 obtain ⟨n',rfl⟩ : ∃ k : Nat,n = k:=⟨n.toNat,by omega⟩
 rw [enc_tnum]
 exact rnum_any g' n' W (by omega) (by omega)
theorem t_truth (q : Bool) (W : World) : Calls Tryz.prog 27 #[.bool q] W (RefS (PB.enc (bx q)) W):=by
 have e : PB.enc (bx q) = [1,1,if q then 255 else 0]:=by cases q <;> rfl
 rw [e]; exact rtruth_any q W
theorem t_leaf (c g : Int) (s : ByteArray) (W : World) (hc : 0 <= c /\ c <= 3) (hg : 0 <= g /\ g <= 30) (hs : s.size < 16000000) : Calls Tryz.prog 29 #[.int .i64 c,.bool false,.int .i64 g,.string s] W (RefS (PB.enc (.mk c false g s [])) W):=by
 obtain ⟨g',rfl⟩ : ∃ k : Nat,g = k:=⟨g.toNat,by omega⟩
 obtain ⟨c',rfl⟩ : ∃ k : Nat,c = k:=⟨c.toNat,by omega⟩
 rw [fG]
 exact dq c' false g' s W (by omega) (by omega) (by omega)
theorem t_own (g : Int) (s : ByteArray) (W : World) (hg : 0 <= g /\ g <= 30) (hs : s.size < 16000000) : Calls Tryz.prog 29 #[.int .i64 2,.bool false,.int .i64 g,.string s] W (RefS (PB.enc (town g s)) W):=t_leaf 2 g s W (by omega) hg hs
theorem cK (c g : Int) (s : ByteArray) (ks : List Tl) (W : World) (hc : 0 <= c /\ c <= 3) (hg : 0 <= g /\ g <= 30) (hs : s.data.toList = PB.encs ks) (hl : (PB.encs ks).length < 16000000) : Calls Tryz.prog 29 #[.int .i64 c,.bool true,.int .i64 g,.string s] W (RefS (PB.enc (.mk c true g ⟨#[]⟩ ks)) W):=by
 obtain ⟨g',rfl⟩ : ∃ k : Nat,g = k:=⟨g.toNat,by omega⟩
 obtain ⟨c',rfl⟩ : ∃ k : Nat,c = k:=⟨c.toNat,by omega⟩
 rw [dN]
 exact cE c' true g' _ s _ W rfl (by omega) (by omega) hs (by omega)
theorem cT (s : ByteArray) (ks : List Tl) (W : World) (hs : s.data.toList = PB.encs ks) (hl : (PB.encs ks).length < 16000000) : Calls Tryz.prog 28 #[.string s] W (RefS (PB.enc (aI ks)) W):=by
 rw [enc_list]; exact rlist_at s _ W hs (by omega)
theorem t_bytes (n : Int) (W : World) (hn : 0 <= n /\ n < 2147483648) : Calls Tryz.prog 56 #[.int .i64 n] W (RefS (PB.ofNum n) W):=by
 obtain ⟨n',rfl⟩ : ∃ k : Nat,n = k:=⟨n.toNat,by omega⟩
 exact rbytesN_any n' W (by omega)
theorem aB (c g : Int) (s : ByteArray) : s.size < (PB.enc (.mk c false g s [])).length:=by
 unfold PB.enc
 rw [if_neg (by decide)]
 have e : s.data.toList.length = s.size:=rfl
 simp only [List.length_cons,List.length_append,e]
 omega
theorem cy (c g : Int) (ks : List Tl) : (PB.encs ks).length < (PB.enc (.mk c true g ⟨#[]⟩ ks)).length:=by
 unfold PB.enc
 rw [if_pos rfl]
 simp only [List.length_cons,List.length_append]
 omega
theorem rop_unbind (M : Ms) (m : MC) (S : Nat -> Prop) (w : World) (h : MsAt w S M m) (hop : M.op = 2) :
  Calls Tryz.prog 25 #[.agg m.cells] w (RefS (PB.enc (.mk 1 false 2 ⟨#[]⟩ [])) w):=by
 have HL:=aa fun (W : World) => t_leaf 1 2 ⟨#[]⟩ W (by omega) (by omega) (by decide)
 obtain ⟨f,at',li,mo,de,co,hm,⟨hz_name,hz_secret,hz_kind,hz_value,hz_text,hz_rdn⟩,hfl,hat,hli,hmo,hde,hco⟩:=h
 obtain ⟨cs,hcs⟩ : ∃ cs,cs = m.cells:=⟨_,rfl⟩
 have c1 : cs[1]? = some (.int .i64 M.op):=by rw [hcs,hm]; rfl
 rw [hop] at c1
 rw [<- hcs]
 obtain ⟨wc,hwc⟩ : ∃ W,W = w.alloc (.cells cs 30):=⟨_,rfl⟩
 have hbx : Below w.heap.size w wc:=by rw [hwc]; exact (Below.refl w.heap.size w).alloc (Nat.le_refl _) _
 have hkx : Bk wc w.heap.size 30 cs:=by rw [hwc]; exact Bk.new w _ cs
 have HBX:=aa hbx
 have HKX:=aa hkx
 have HWC:=aa hwc
 have p1 : (w.alloc (.cells cs 30)).cell? ⟨w.heap.size,1,none⟩ = some (.int .i64 2):=by rw [<- hwc]; exact (hkx.cell 1).trans c1
 have HKF:=aa fun (W : World) (hb : Below wc.heap.size wc W) => (show W.cell? ⟨w.heap.size,1,none⟩ = some (.int .i64 2) /\ w.heap.size < W.heap.size from ⟨((af hkx hb).cell 1).trans c1,(af hkx hb).lt⟩)
 clear hwc hbx hkx hcs hm hfl hat hli hmo hde hco hz_name hz_secret hz_kind hz_value hz_text hz_rdn c1
 go_enter Tryz.func25,Tryz.ntmps25
 go_wp2_with (first
  | (go_at_call 29; go_must (refine (HL.out _).mono ?_); rintro e w9 ⟨hb9,r,rfl,hr⟩; rw [<- HWC.out] at hb9; have HB9:=aa (HBX.out.trans (hb9.mono HBX.out.size)); have HR:=aa hr; clear hb9 hr)
  | fail)
 go_ret
 exact ⟨HB9.out,r,rfl,HR.out⟩
theorem rop_delete (M : Ms) (m : MC) (S : Nat -> Prop) (w : World) (h : MsAt w S M m) (hop : M.op = 10) (hl : (PB.enc (.mk 1 false 10 M.name [])).length < 15000000) :
  Calls Tryz.prog 25 #[.agg m.cells] w (RefS (PB.enc (.mk 1 false 10 M.name [])) w):=by
 have hs:=aB 1 10 M.name
 have HL:=aa fun (W : World) => t_leaf 1 10 M.name W (by omega) (by omega) (by omega)
 clear hs hl
 obtain ⟨f,at',li,mo,de,co,hm,⟨hz_name,hz_secret,hz_kind,hz_value,hz_text,hz_rdn⟩,hfl,hat,hli,hmo,hde,hco⟩:=h
 obtain ⟨cs,hcs⟩ : ∃ cs,cs = m.cells:=⟨_,rfl⟩
 have c1 : cs[1]? = some (.int .i64 M.op):=by rw [hcs,hm]; rfl
 have c3 : cs[3]? = some (.string M.name):=by rw [hcs,hm]; rfl
 rw [hop] at c1
 rw [<- hcs]
 obtain ⟨wc,hwc⟩ : ∃ W,W = w.alloc (.cells cs 30):=⟨_,rfl⟩
 have hbx : Below w.heap.size w wc:=by rw [hwc]; exact (Below.refl w.heap.size w).alloc (Nat.le_refl _) _
 have hkx : Bk wc w.heap.size 30 cs:=by rw [hwc]; exact Bk.new w _ cs
 have HBX:=aa hbx
 have HKX:=aa hkx
 have HWC:=aa hwc
 have p1 : (w.alloc (.cells cs 30)).cell? ⟨w.heap.size,1,none⟩ = some (.int .i64 10):=by rw [<- hwc]; exact (hkx.cell 1).trans c1
 have p3 : (w.alloc (.cells cs 30)).cell? ⟨w.heap.size,3,none⟩ = some (.string M.name):=by rw [<- hwc]; exact (hkx.cell 3).trans c3
 have HKF:=aa fun (W : World) (hb : Below wc.heap.size wc W) => (show W.cell? ⟨w.heap.size,1,none⟩ = some (.int .i64 10) /\ W.cell? ⟨w.heap.size,3,none⟩ = some (.string M.name) /\ w.heap.size < W.heap.size from ⟨((af hkx hb).cell 1).trans c1,((af hkx hb).cell 3).trans c3,(af hkx hb).lt⟩)
 clear hwc hbx hkx hcs hm hfl hat hli hmo hde hco hz_name hz_secret hz_kind hz_value hz_text hz_rdn c1 c3
 go_enter Tryz.func25,Tryz.ntmps25
 go_wp2_with (first
  | (go_at_call 29; go_must (refine (HL.out _).mono ?_); rintro e w9 ⟨hb9,r,rfl,hr⟩; rw [<- HWC.out] at hb9; have HB9:=aa (HBX.out.trans (hb9.mono HBX.out.size)); have HR:=aa hr; clear hb9 hr)
  | fail)
 go_ret
 exact ⟨HB9.out,r,rfl,HR.out⟩
theorem rop_abandon (M : Ms) (m : MC) (S : Nat -> Prop) (w : World) (h : MsAt w S M m) (hop : M.op = 16) (ho : 0 <= M.other /\ M.other < 2147483648) :
  Calls Tryz.prog 25 #[.agg m.cells] w (RefS (PB.enc (.mk 1 false 16 ⟨(PB.ofNum M.other).toArray⟩ [])) w):=by
 have HBY:=aa fun (W : World) => t_bytes M.other W ho
 have HL:=aa fun (s : ByteArray) (hs : s.data.toList = PB.ofNum M.other) (W : World) => (show Calls Tryz.prog 29 #[.int .i64 1,.bool false,.int .i64 16,.string s] W (RefS (PB.enc (.mk 1 false 16 ⟨(PB.ofNum M.other).toArray⟩ [])) W) by
  have e:=eo hs
  have h9:=fR M.other
  have h8:=aV hs
  rw [<- e]
  exact t_leaf 1 16 s W (by omega) (by omega) (by omega))
 obtain ⟨f,at',li,mo,de,co,hm,⟨hz_name,hz_secret,hz_kind,hz_value,hz_text,hz_rdn⟩,hfl,hat,hli,hmo,hde,hco⟩:=h
 obtain ⟨cs,hcs⟩ : ∃ cs,cs = m.cells:=⟨_,rfl⟩
 have c1 : cs[1]? = some (.int .i64 M.op):=by rw [hcs,hm]; rfl
 have c29 : cs[29]? = some (.int .i64 M.other):=by rw [hcs,hm]; rfl
 rw [hop] at c1
 rw [<- hcs]
 obtain ⟨wc,hwc⟩ : ∃ W,W = w.alloc (.cells cs 30):=⟨_,rfl⟩
 have hbx : Below w.heap.size w wc:=by rw [hwc]; exact (Below.refl w.heap.size w).alloc (Nat.le_refl _) _
 have hkx : Bk wc w.heap.size 30 cs:=by rw [hwc]; exact Bk.new w _ cs
 have HBX:=aa hbx
 have HKX:=aa hkx
 have HWC:=aa hwc
 have p1 : (w.alloc (.cells cs 30)).cell? ⟨w.heap.size,1,none⟩ = some (.int .i64 16):=by rw [<- hwc]; exact (hkx.cell 1).trans c1
 have p29 : (w.alloc (.cells cs 30)).cell? ⟨w.heap.size,29,none⟩ = some (.int .i64 M.other):=by rw [<- hwc]; exact (hkx.cell 29).trans c29
 have HKF:=aa fun (W : World) (hb : Below wc.heap.size wc W) => (show W.cell? ⟨w.heap.size,1,none⟩ = some (.int .i64 16) /\ W.cell? ⟨w.heap.size,29,none⟩ = some (.int .i64 M.other) /\ w.heap.size < W.heap.size from ⟨((af hkx hb).cell 1).trans c1,((af hkx hb).cell 29).trans c29,(af hkx hb).lt⟩)
 clear hwc hbx hkx hcs hm hfl hat hli hmo hde hco hz_name hz_secret hz_kind hz_value hz_text hz_rdn c1 c29
 go_enter Tryz.func25,Tryz.ntmps25
 go_wp2_with (first
  | (go_at_call 56; (with_reducible refine (HBY.out _).mono ?_); rintro e w1 ⟨hb1,x1,rfl,hx1⟩; rw [<- HWC.out] at hb1; have hn1:=hb1; obtain ⟨p1,p29,hlt8⟩:=HKF.out _ hn1; have HX1:=aa hx1; clear hx1 hb1)
  | (go_at_call 29; go_must (refine (HL.out x1 HX1.out _).mono ?_); rintro e w9 ⟨hb9,r,rfl,hr⟩; have HB9:=aa (HBX.out.trans ((ag hn1 hb9).mono HBX.out.size)); have HR:=aa hr; clear hb9 hr)
  | fail)
 go_ret
 exact ⟨HB9.out,r,rfl,HR.out⟩
theorem rop_bind (M : Ms) (m : MC) (S : Nat -> Prop) (w : World) (h : MsAt w S M m) (hop : M.op = 0) (hv : 0 <= M.version /\ M.version < 2147483648) (hl : (PB.encs M.bindT).length < 15000000) :
  Calls Tryz.prog 25 #[.agg m.cells] w (RefS (PB.enc (.mk 1 true 0 ⟨#[]⟩ M.bindT)) w):=by
 have HND:=aa fun (s : ByteArray) (hs : s.data.toList = PB.encs M.bindT) (W : World) => cK 1 0 s M.bindT W (by omega) (by omega) hs (by omega)
 have HNU:=aa fun (W : World) => fe 2 M.version W (by omega) hv
 obtain ⟨f,at',li,mo,de,co,hm,⟨hz_name,hz_secret,hz_kind,hz_value,hz_text,hz_rdn⟩,hfl,hat,hli,hmo,hde,hco⟩:=h
 obtain ⟨cs,hcs⟩ : ∃ cs,cs = m.cells:=⟨_,rfl⟩
 have c1 : cs[1]? = some (.int .i64 M.op):=by rw [hcs,hm]; rfl
 have c2 : cs[2]? = some (.int .i64 M.version):=by rw [hcs,hm]; rfl
 have c3 : cs[3]? = some (.string M.name):=by rw [hcs,hm]; rfl
 have c4 : cs[4]? = some (.bool M.sasl):=by rw [hcs,hm]; rfl
 have c5 : cs[5]? = some (.string M.secret):=by rw [hcs,hm]; rfl
 have c6 : cs[6]? = some (.string M.kind):=by rw [hcs,hm]; rfl
 have c7 : cs[7]? = some (.bool M.has):=by rw [hcs,hm]; rfl
 have c8 : cs[8]? = some (.string M.value):=by rw [hcs,hm]; rfl
 rw [hop] at c1
 rw [<- hcs]
 obtain ⟨wc,hwc⟩ : ∃ W,W = w.alloc (.cells cs 30):=⟨_,rfl⟩
 have hbx : Below w.heap.size w wc:=by rw [hwc]; exact (Below.refl w.heap.size w).alloc (Nat.le_refl _) _
 have hkx : Bk wc w.heap.size 30 cs:=by rw [hwc]; exact Bk.new w _ cs
 have HBX:=aa hbx
 have HKX:=aa hkx
 have HWC:=aa hwc
 have p1 : (w.alloc (.cells cs 30)).cell? ⟨w.heap.size,1,none⟩ = some (.int .i64 0):=by rw [<- hwc]; exact (hkx.cell 1).trans c1
 have p2 : (w.alloc (.cells cs 30)).cell? ⟨w.heap.size,2,none⟩ = some (.int .i64 M.version):=by rw [<- hwc]; exact (hkx.cell 2).trans c2
 have p3 : (w.alloc (.cells cs 30)).cell? ⟨w.heap.size,3,none⟩ = some (.string M.name):=by rw [<- hwc]; exact (hkx.cell 3).trans c3
 have p4 : (w.alloc (.cells cs 30)).cell? ⟨w.heap.size,4,none⟩ = some (.bool M.sasl):=by rw [<- hwc]; exact (hkx.cell 4).trans c4
 have p5 : (w.alloc (.cells cs 30)).cell? ⟨w.heap.size,5,none⟩ = some (.string M.secret):=by rw [<- hwc]; exact (hkx.cell 5).trans c5
 have p6 : (w.alloc (.cells cs 30)).cell? ⟨w.heap.size,6,none⟩ = some (.string M.kind):=by rw [<- hwc]; exact (hkx.cell 6).trans c6
 have p7 : (w.alloc (.cells cs 30)).cell? ⟨w.heap.size,7,none⟩ = some (.bool M.has):=by rw [<- hwc]; exact (hkx.cell 7).trans c7
 have p8 : (w.alloc (.cells cs 30)).cell? ⟨w.heap.size,8,none⟩ = some (.string M.value):=by rw [<- hwc]; exact (hkx.cell 8).trans c8
 have HKF:=aa fun (W : World) (hb : Below wc.heap.size wc W) => (show W.cell? ⟨w.heap.size,1,none⟩ = some (.int .i64 0) /\ W.cell? ⟨w.heap.size,2,none⟩ = some (.int .i64 M.version) /\ W.cell? ⟨w.heap.size,3,none⟩ = some (.string M.name) /\ W.cell? ⟨w.heap.size,4,none⟩ = some (.bool M.sasl) /\ W.cell? ⟨w.heap.size,5,none⟩ = some (.string M.secret) /\ W.cell? ⟨w.heap.size,6,none⟩ = some (.string M.kind) /\ W.cell? ⟨w.heap.size,7,none⟩ = some (.bool M.has) /\ W.cell? ⟨w.heap.size,8,none⟩ = some (.string M.value) /\ w.heap.size < W.heap.size from ⟨((af hkx hb).cell 1).trans c1,((af hkx hb).cell 2).trans c2,((af hkx hb).cell 3).trans c3,((af hkx hb).cell 4).trans c4,((af hkx hb).cell 5).trans c5,((af hkx hb).cell 6).trans c6,((af hkx hb).cell 7).trans c7,((af hkx hb).cell 8).trans c8,(af hkx hb).lt⟩)
 unfold Ms.bindT at hl HND |-
 obtain hsa | hsa : M.sasl = false \/ M.sasl = true:=by cases M.sasl <;> simp
 ·rw [hsa] at hl HND p4 HKF |-
  rw [if_neg (by decide)] at hl HND |-
  rw [ai,ai,ai,ar] at hl
  have s1:=aB 0 4 M.name
  have s2:=aB 2 0 M.secret
  have e1 : (PB.enc (tstr M.name)).length = (PB.enc (.mk 0 false 4 M.name [])).length:=rfl
  have e2 : (PB.enc (town 0 M.secret)).length = (PB.enc (.mk 2 false 0 M.secret [])).length:=rfl
  have HT_name:=aa fun (W : World) => bf M.name W (by omega)
  have HT_secret:=aa fun (W : World) => t_own 0 M.secret W (by omega) (by omega)
  have HN:=aa hl
  clear hsa hl s1 s2 e1 e2 hv hop
  clear hwc hbx hkx hcs hm hfl hat hli hmo hde hco hz_name hz_secret hz_kind hz_value hz_text hz_rdn c1 c2 c3 c4 c5 c6 c7 c8
  go_enter Tryz.func25,Tryz.ntmps25
  go_wp2_with (first
   | (go_at_call 26; (with_reducible refine (HT_name.out _).mono ?_); rintro e w1 ⟨hb1,x1,rfl,hx1⟩; rw [<- HWC.out] at hb1; have hn1:=hb1; obtain ⟨p1,p2,p3,p4,p5,p6,p7,p8,hlt8⟩:=HKF.out _ hn1; have HX1:=aa hx1; clear hx1 hb1)
   | (go_at_call 24; (with_reducible refine (HNU.out _).mono ?_); rintro e w2 ⟨hb2,x2,rfl,hx2⟩; have hn2:=ag hn1 hb2; obtain ⟨p1,p2,p3,p4,p5,p6,p7,p8,hlt8⟩:=HKF.out _ hn2; have HX2:=aa hx2; obtain ⟨a1,E1,k1⟩:=cat HX2.out HX1.out (by have hn:=HN.out; (try simp only [List.length_append] at hn |-); omega); clear hx2 hb2)
   | (go_at_call 29; (with_reducible refine (HT_secret.out _).mono ?_); rintro e w3 ⟨hb3,x3,rfl,hx3⟩; have hn3:=ag hn2 hb3; obtain ⟨p1,p2,p3,p4,p5,p6,p7,p8,hlt8⟩:=HKF.out _ hn3; have HX3:=aa hx3; obtain ⟨a2,E2,k2⟩:=cat E1.out HX3.out (by have hn:=HN.out; (try simp only [List.length_append] at hn |-); omega); clear hx3 hb3)
   | (go_at_call 29; go_must (with_reducible refine (HND.out a2 (by rw [E2.out]; simp only [PB.encs,List.append_assoc,List.append_nil]) _).mono ?_); rintro e w9 ⟨hb9,r,rfl,hr⟩; have HB9:=aa (HBX.out.trans ((ag hn3 hb9).mono HBX.out.size)); have HR:=aa hr; clear hb9 hr)
   | fail)
  go_ret
  exact ⟨HB9.out,r,rfl,HR.out⟩
 ·rw [hsa] at hl HND p4 HKF |-
  rw [if_pos rfl] at hl HND |-
  obtain hha | hha : M.has = false \/ M.has = true:=by cases M.has <;> simp
  ·rw [hha] at hl HND p7 HKF |-
   rw [if_neg (by decide)] at hl HND |-
   rw [ai,ai,ai,ar] at hl
   have s0:=cy 2 3 [tstr M.kind]
   rw [ai,ar] at s0
   have s1:=aB 0 4 M.name
   have s2:=aB 0 4 M.kind
   have s3:=aB 0 4 M.value
   have e_name : (PB.enc (tstr M.name)).length = (PB.enc (.mk 0 false 4 M.name [])).length:=rfl
   have e_kind : (PB.enc (tstr M.kind)).length = (PB.enc (.mk 0 false 4 M.kind [])).length:=rfl
   have e_value : (PB.enc (tstr M.value)).length = (PB.enc (.mk 0 false 4 M.value [])).length:=rfl
   have HT_name:=aa fun (W : World) => bf M.name W (by omega)
   have HT_kind:=aa fun (W : World) => bf M.kind W (by omega)
   have HNO:=aa fun (s : ByteArray) (hs : s.data.toList = PB.encs [tstr M.kind]) (W : World) => cK 2 3 s [tstr M.kind] W (by omega) (by omega) hs (by rw [ai,ar]; omega)
   have HN:=aa (And.intro hl s0)
   clear hsa hha hl s0 s1 s2 s3 e_name e_kind e_value hv hop
   clear hwc hbx hkx hcs hm hfl hat hli hmo hde hco hz_name hz_secret hz_kind hz_value hz_text hz_rdn c1 c2 c3 c4 c5 c6 c7 c8
   go_enter Tryz.func25,Tryz.ntmps25
   go_wp2_with (first
    | (go_at_call 26; (with_reducible refine (HT_name.out _).mono ?_); rintro e w1 ⟨hb1,x1,rfl,hx1⟩; rw [<- HWC.out] at hb1; have hn1:=hb1; obtain ⟨p1,p2,p3,p4,p5,p6,p7,p8,hlt8⟩:=HKF.out _ hn1; have HX1:=aa hx1; clear hx1 hb1)
    | (go_at_call 24; (with_reducible refine (HNU.out _).mono ?_); rintro e w2 ⟨hb2,x2,rfl,hx2⟩; have hn2:=ag hn1 hb2; obtain ⟨p1,p2,p3,p4,p5,p6,p7,p8,hlt8⟩:=HKF.out _ hn2; have HX2:=aa hx2; obtain ⟨a1,E1,k1⟩:=cat HX2.out HX1.out (by have hn:=HN.out; (try simp only [List.length_append] at hn |-); omega); clear hx2 hb2)
    | (go_at_call 26; (with_reducible refine (HT_kind.out _).mono ?_); rintro e w3 ⟨hb3,x3,rfl,hx3⟩; have hn3:=ag hn2 hb3; obtain ⟨p1,p2,p3,p4,p5,p6,p7,p8,hlt8⟩:=HKF.out _ hn3; have HX3:=aa hx3; clear hx3 hb3)
    | (go_at_call 29; (with_reducible refine (HNO.out x3 (by rw [HX3.out]; simp only [PB.encs,List.append_nil]) _).mono ?_); rintro e w5 ⟨hb5,x5,rfl,hx5⟩; have hn5:=ag hn3 hb5; obtain ⟨p1,p2,p3,p4,p5,p6,p7,p8,hlt8⟩:=HKF.out _ hn5; have HX5:=aa hx5; obtain ⟨a3,E3,k3⟩:=cat E1.out HX5.out (by have hn:=HN.out; (try simp only [List.length_append] at hn |-); omega); clear hx5 hb5)
    | (go_at_call 29; go_must (with_reducible refine (HND.out a3 (by rw [E3.out]; simp only [PB.encs,List.append_assoc,List.append_nil]) _).mono ?_); rintro e w9 ⟨hb9,r,rfl,hr⟩; have HB9:=aa (HBX.out.trans ((ag hn5 hb9).mono HBX.out.size)); have HR:=aa hr; clear hb9 hr)
    | fail)
   go_ret
   exact ⟨HB9.out,r,rfl,HR.out⟩
  ·rw [hha] at hl HND p7 HKF |-
   rw [if_pos rfl] at hl HND |-
   rw [ai,ai,ai,ar] at hl
   have s0:=cy 2 3 [tstr M.kind,tstr M.value]
   rw [ai,ai,ar] at s0
   have s1:=aB 0 4 M.name
   have s2:=aB 0 4 M.kind
   have s3:=aB 0 4 M.value
   have e_name : (PB.enc (tstr M.name)).length = (PB.enc (.mk 0 false 4 M.name [])).length:=rfl
   have e_kind : (PB.enc (tstr M.kind)).length = (PB.enc (.mk 0 false 4 M.kind [])).length:=rfl
   have e_value : (PB.enc (tstr M.value)).length = (PB.enc (.mk 0 false 4 M.value [])).length:=rfl
   have HT_name:=aa fun (W : World) => bf M.name W (by omega)
   have HT_kind:=aa fun (W : World) => bf M.kind W (by omega)
   have HT_value:=aa fun (W : World) => bf M.value W (by omega)
   have HNO:=aa fun (s : ByteArray) (hs : s.data.toList = PB.encs [tstr M.kind,tstr M.value]) (W : World) => cK 2 3 s [tstr M.kind,tstr M.value] W (by omega) (by omega) hs (by rw [ai,ai,ar]; omega)
   have HN:=aa (And.intro hl s0)
   clear hsa hha hl s0 s1 s2 s3 e_name e_kind e_value hv hop
   clear hwc hbx hkx hcs hm hfl hat hli hmo hde hco hz_name hz_secret hz_kind hz_value hz_text hz_rdn c1 c2 c3 c4 c5 c6 c7 c8
   go_enter Tryz.func25,Tryz.ntmps25
   go_wp2_with (first
    | (go_at_call 26; (with_reducible refine (HT_name.out _).mono ?_); rintro e w1 ⟨hb1,x1,rfl,hx1⟩; rw [<- HWC.out] at hb1; have hn1:=hb1; obtain ⟨p1,p2,p3,p4,p5,p6,p7,p8,hlt8⟩:=HKF.out _ hn1; have HX1:=aa hx1; clear hx1 hb1)
    | (go_at_call 24; (with_reducible refine (HNU.out _).mono ?_); rintro e w2 ⟨hb2,x2,rfl,hx2⟩; have hn2:=ag hn1 hb2; obtain ⟨p1,p2,p3,p4,p5,p6,p7,p8,hlt8⟩:=HKF.out _ hn2; have HX2:=aa hx2; obtain ⟨a1,E1,k1⟩:=cat HX2.out HX1.out (by have hn:=HN.out; (try simp only [List.length_append] at hn |-); omega); clear hx2 hb2)
    | (go_at_call 26; (with_reducible refine (HT_kind.out _).mono ?_); rintro e w3 ⟨hb3,x3,rfl,hx3⟩; have hn3:=ag hn2 hb3; obtain ⟨p1,p2,p3,p4,p5,p6,p7,p8,hlt8⟩:=HKF.out _ hn3; have HX3:=aa hx3; clear hx3 hb3)
    | (go_at_call 26; (with_reducible refine (HT_value.out _).mono ?_); rintro e w4 ⟨hb4,x4,rfl,hx4⟩; have hn4:=ag hn3 hb4; obtain ⟨p1,p2,p3,p4,p5,p6,p7,p8,hlt8⟩:=HKF.out _ hn4; have HX4:=aa hx4; obtain ⟨a2,E2,k2⟩:=cat HX3.out HX4.out (by have hn:=HN.out; (try simp only [List.length_append] at hn |-); omega); have HA:=aa (show a2.data.toList = PB.encs [tstr M.kind,tstr M.value] by rw [E2.out]; simp only [PB.encs,List.append_nil]); clear hx4 hb4)
    | (go_at_call 29; (with_reducible refine (HNO.out a2 HA.out _).mono ?_); rintro e w5 ⟨hb5,x5,rfl,hx5⟩; have hn5:=ag hn4 hb5; obtain ⟨p1,p2,p3,p4,p5,p6,p7,p8,hlt8⟩:=HKF.out _ hn5; have HX5:=aa hx5; obtain ⟨a3,E3,k3⟩:=cat E1.out HX5.out (by have hn:=HN.out; (try simp only [List.length_append] at hn |-); omega); clear hx5 hb5)
    | (go_at_call 29; go_must (with_reducible refine (HND.out a3 (by rw [E3.out]; simp only [PB.encs,List.append_assoc,List.append_nil]) _).mono ?_); rintro e w9 ⟨hb9,r,rfl,hr⟩; have HB9:=aa (HBX.out.trans ((ag hn5 hb9).mono HBX.out.size)); have HR:=aa hr; clear hb9 hr)
    | fail)
   go_ret
   exact ⟨HB9.out,r,rfl,HR.out⟩
theorem rop_search (M : Ms) (m : MC) (S : Nat -> Prop) (w : World) (h : MsAt w S M m) (hop : M.op = 3) (hr : (0 <= M.scope /\ M.scope < 2147483648) /\ (0 <= M.deref /\ M.deref < 2147483648) /\ (0 <= M.size /\ M.size < 2147483648) /\ (0 <= M.time /\ M.time < 2147483648)) (hf : REnc M.filter) (hatn : M.attrs.length <= 1000000) (hl : (PB.encs M.seaT).length < 15000000) :
  Calls Tryz.prog 25 #[.agg m.cells] w (RefS (PB.enc (.mk 1 true 3 ⟨#[]⟩ M.seaT)) w):=by
 have HND:=aa fun (s : ByteArray) (hs : s.data.toList = PB.encs M.seaT) (W : World) => cK 1 3 s M.seaT W (by omega) (by omega) hs (by omega)
 have HN_scope:=aa fun (W : World) => fe 10 M.scope W (by omega) (by omega)
 have HN_deref:=aa fun (W : World) => fe 10 M.deref W (by omega) (by omega)
 have HN_size:=aa fun (W : World) => fe 2 M.size W (by omega) (by omega)
 have HN_time:=aa fun (W : World) => fe 2 M.time W (by omega) (by omega)
 have HTR:=aa fun (W : World) => t_truth M.types W
 obtain ⟨f,at',li,mo,de,co,hm,⟨hz_name,hz_secret,hz_kind,hz_value,hz_text,hz_rdn⟩,hfl,hat,hli,hmo,hde,hco⟩:=h
 obtain ⟨cs,hcs⟩ : ∃ cs,cs = m.cells:=⟨_,rfl⟩
 have c1 : cs[1]? = some (.int .i64 M.op):=by rw [hcs,hm]; rfl
 have c3 : cs[3]? = some (.string M.name):=by rw [hcs,hm]; rfl
 have c11 : cs[11]? = some (.int .i64 M.scope):=by rw [hcs,hm]; rfl
 have c12 : cs[12]? = some (.int .i64 M.deref):=by rw [hcs,hm]; rfl
 have c13 : cs[13]? = some (.int .i64 M.size):=by rw [hcs,hm]; rfl
 have c14 : cs[14]? = some (.int .i64 M.time):=by rw [hcs,hm]; rfl
 have c15 : cs[15]? = some (.bool M.types):=by rw [hcs,hm]; rfl
 have c16 : cs[16]? = some (.int .i64 f.kind):=by rw [hcs,hm]; rfl
 have c17 : cs[17]? = some (.string f.attr):=by rw [hcs,hm]; rfl
 have c18 : cs[18]? = some (.string f.value):=by rw [hcs,hm]; rfl
 have c19 : cs[19]? = some (.string f.first):=by rw [hcs,hm]; rfl
 have c20 : cs[20]? = some (.slice f.any.A f.any.n f.any.c):=by rw [hcs,hm]; rfl
 have c21 : cs[21]? = some (.string f.last):=by rw [hcs,hm]; rfl
 have c22 : cs[22]? = some (.slice f.kids.A f.kids.n f.kids.c):=by rw [hcs,hm]; rfl
 have c23 : cs[23]? = some (.slice at'.A at'.n at'.c):=by rw [hcs,hm]; rfl
 rw [hop] at c1
 rw [<- hcs]
 obtain ⟨wc,hwc⟩ : ∃ W,W = w.alloc (.cells cs 30):=⟨_,rfl⟩
 have hbx : Below w.heap.size w wc:=by rw [hwc]; exact (Below.refl w.heap.size w).alloc (Nat.le_refl _) _
 have hkx : Bk wc w.heap.size 30 cs:=by rw [hwc]; exact Bk.new w _ cs
 have HBX:=aa hbx
 have HKX:=aa hkx
 have HWC:=aa hwc
 have p1 : (w.alloc (.cells cs 30)).cell? ⟨w.heap.size,1,none⟩ = some (.int .i64 3):=by rw [<- hwc]; exact (hkx.cell 1).trans c1
 have p3 : (w.alloc (.cells cs 30)).cell? ⟨w.heap.size,3,none⟩ = some (.string M.name):=by rw [<- hwc]; exact (hkx.cell 3).trans c3
 have p11 : (w.alloc (.cells cs 30)).cell? ⟨w.heap.size,11,none⟩ = some (.int .i64 M.scope):=by rw [<- hwc]; exact (hkx.cell 11).trans c11
 have p12 : (w.alloc (.cells cs 30)).cell? ⟨w.heap.size,12,none⟩ = some (.int .i64 M.deref):=by rw [<- hwc]; exact (hkx.cell 12).trans c12
 have p13 : (w.alloc (.cells cs 30)).cell? ⟨w.heap.size,13,none⟩ = some (.int .i64 M.size):=by rw [<- hwc]; exact (hkx.cell 13).trans c13
 have p14 : (w.alloc (.cells cs 30)).cell? ⟨w.heap.size,14,none⟩ = some (.int .i64 M.time):=by rw [<- hwc]; exact (hkx.cell 14).trans c14
 have p15 : (w.alloc (.cells cs 30)).cell? ⟨w.heap.size,15,none⟩ = some (.bool M.types):=by rw [<- hwc]; exact (hkx.cell 15).trans c15
 have p16 : (w.alloc (.cells cs 30)).cell? ⟨w.heap.size,16,none⟩ = some (.int .i64 f.kind):=by rw [<- hwc]; exact (hkx.cell 16).trans c16
 have p17 : (w.alloc (.cells cs 30)).cell? ⟨w.heap.size,17,none⟩ = some (.string f.attr):=by rw [<- hwc]; exact (hkx.cell 17).trans c17
 have p18 : (w.alloc (.cells cs 30)).cell? ⟨w.heap.size,18,none⟩ = some (.string f.value):=by rw [<- hwc]; exact (hkx.cell 18).trans c18
 have p19 : (w.alloc (.cells cs 30)).cell? ⟨w.heap.size,19,none⟩ = some (.string f.first):=by rw [<- hwc]; exact (hkx.cell 19).trans c19
 have p20 : (w.alloc (.cells cs 30)).cell? ⟨w.heap.size,20,none⟩ = some (.slice f.any.A f.any.n f.any.c):=by rw [<- hwc]; exact (hkx.cell 20).trans c20
 have p21 : (w.alloc (.cells cs 30)).cell? ⟨w.heap.size,21,none⟩ = some (.string f.last):=by rw [<- hwc]; exact (hkx.cell 21).trans c21
 have p22 : (w.alloc (.cells cs 30)).cell? ⟨w.heap.size,22,none⟩ = some (.slice f.kids.A f.kids.n f.kids.c):=by rw [<- hwc]; exact (hkx.cell 22).trans c22
 have p23 : (w.alloc (.cells cs 30)).cell? ⟨w.heap.size,23,none⟩ = some (.slice at'.A at'.n at'.c):=by rw [<- hwc]; exact (hkx.cell 23).trans c23
 have HKF:=aa fun (W : World) (hb : Below wc.heap.size wc W) => (show W.cell? ⟨w.heap.size,1,none⟩ = some (.int .i64 3) /\ W.cell? ⟨w.heap.size,3,none⟩ = some (.string M.name) /\ W.cell? ⟨w.heap.size,11,none⟩ = some (.int .i64 M.scope) /\ W.cell? ⟨w.heap.size,12,none⟩ = some (.int .i64 M.deref) /\ W.cell? ⟨w.heap.size,13,none⟩ = some (.int .i64 M.size) /\ W.cell? ⟨w.heap.size,14,none⟩ = some (.int .i64 M.time) /\ W.cell? ⟨w.heap.size,15,none⟩ = some (.bool M.types) /\ W.cell? ⟨w.heap.size,16,none⟩ = some (.int .i64 f.kind) /\ W.cell? ⟨w.heap.size,17,none⟩ = some (.string f.attr) /\ W.cell? ⟨w.heap.size,18,none⟩ = some (.string f.value) /\ W.cell? ⟨w.heap.size,19,none⟩ = some (.string f.first) /\ W.cell? ⟨w.heap.size,20,none⟩ = some (.slice f.any.A f.any.n f.any.c) /\ W.cell? ⟨w.heap.size,21,none⟩ = some (.string f.last) /\ W.cell? ⟨w.heap.size,22,none⟩ = some (.slice f.kids.A f.kids.n f.kids.c) /\ W.cell? ⟨w.heap.size,23,none⟩ = some (.slice at'.A at'.n at'.c) /\ w.heap.size < W.heap.size from ⟨((af hkx hb).cell 1).trans c1,((af hkx hb).cell 3).trans c3,((af hkx hb).cell 11).trans c11,((af hkx hb).cell 12).trans c12,((af hkx hb).cell 13).trans c13,((af hkx hb).cell 14).trans c14,((af hkx hb).cell 15).trans c15,((af hkx hb).cell 16).trans c16,((af hkx hb).cell 17).trans c17,((af hkx hb).cell 18).trans c18,((af hkx hb).cell 19).trans c19,((af hkx hb).cell 20).trans c20,((af hkx hb).cell 21).trans c21,((af hkx hb).cell 22).trans c22,((af hkx hb).cell 23).trans c23,(af hkx hb).lt⟩)
 have HFI:=aa fun (W : World) (hb : Below wc.heap.size wc W) => hf f.cells S W (FlAt.keep (T:=S) (hbx.trans (hb.mono hbx.size)).size (fun x _ hlt => (hbx.trans (hb.mono hbx.size)).block x hlt) (fun _ h _ => h) _ _ hfl)
 have hat2 : at'.n = M.attrs.length:=hat.1
 unfold Ms.seaT at hl HND |-
 rw [ai,ai,ai,ai,ai,ai,ai,ai,ar] at hl
 have s0:=cy 0 16 (M.attrs.map tstr)
 have e0 : (PB.enc (aI (M.attrs.map tstr))).length = (PB.enc (.mk 0 true 16 ⟨#[]⟩ (M.attrs.map tstr))).length:=rfl
 have s1:=aB 0 4 M.name
 have e1 : (PB.enc (tstr M.name)).length = (PB.enc (.mk 0 false 4 M.name [])).length:=rfl
 have HT_name:=aa fun (W : World) => bf M.name W (by omega)
 have HTX:=aa fun (W : World) (hb : Below wc.heap.size wc W) => (show Calls Tryz.prog 58 #[.slice at'.A at'.n at'.c] W (RefS (PB.encs (M.attrs.map tstr)) W) by
  have hbb:=hbx.trans (hb.mono hbx.size)
  have hq':=RowOf.keep al hat (T:=S) hbb.size (fun x _ hlt => hbb.block x hlt) (fun _ h _ => h)
  have:=rtexts_any at'.A at'.c M.attrs W (cX hq') hatn (by omega)
  rw [<- hat2] at this
  exact this)
 have HLI:=aa fun (s : ByteArray) (hs : s.data.toList = PB.encs (M.attrs.map tstr)) (W : World) => cT s _ W hs (by omega)
 have HN:=aa (And.intro hl s0)
 have HKS:=aa fun (W : World) (hb : Below wc.heap.size wc W) => (show W.cell? ⟨w.heap.size,11,none⟩ = some (.int .i64 M.scope) /\ W.cell? ⟨w.heap.size,12,none⟩ = some (.int .i64 M.deref) /\ W.cell? ⟨w.heap.size,13,none⟩ = some (.int .i64 M.size) /\ W.cell? ⟨w.heap.size,14,none⟩ = some (.int .i64 M.time) /\ W.cell? ⟨w.heap.size,15,none⟩ = some (.bool M.types) /\ W.cell? ⟨w.heap.size,16,none⟩ = some (.int .i64 f.kind) /\ W.cell? ⟨w.heap.size,17,none⟩ = some (.string f.attr) /\ W.cell? ⟨w.heap.size,18,none⟩ = some (.string f.value) /\ W.cell? ⟨w.heap.size,19,none⟩ = some (.string f.first) /\ W.cell? ⟨w.heap.size,20,none⟩ = some (.slice f.any.A f.any.n f.any.c) /\ W.cell? ⟨w.heap.size,21,none⟩ = some (.string f.last) /\ W.cell? ⟨w.heap.size,22,none⟩ = some (.slice f.kids.A f.kids.n f.kids.c) /\ W.cell? ⟨w.heap.size,23,none⟩ = some (.slice at'.A at'.n at'.c) from ⟨((af hkx hb).cell 11).trans c11,((af hkx hb).cell 12).trans c12,((af hkx hb).cell 13).trans c13,((af hkx hb).cell 14).trans c14,((af hkx hb).cell 15).trans c15,((af hkx hb).cell 16).trans c16,((af hkx hb).cell 17).trans c17,((af hkx hb).cell 18).trans c18,((af hkx hb).cell 19).trans c19,((af hkx hb).cell 20).trans c20,((af hkx hb).cell 21).trans c21,((af hkx hb).cell 22).trans c22,((af hkx hb).cell 23).trans c23⟩)
 clear hwc hbx hkx hcs hm hfl hat hli hmo hde hco hz_name hz_secret hz_kind hz_value hz_text hz_rdn c1 c3 c11 c12 c13 c14 c15 c16 c17 c18 c19 c20 c21 c22 c23 hl s0 e0 s1 e1 hr hatn hf hop hat2
 go_enter Tryz.func25,Tryz.ntmps25
 go_upto_region 22 with (first
  | (go_at_call 26; (with_reducible refine (HT_name.out _).mono ?_); rintro e w1 ⟨hb1,x1,rfl,hx1⟩; rw [<- HWC.out] at hb1; have hn1:=hb1; obtain ⟨p1,p3,p11,p12,p13,p14,p15,p16,p17,p18,p19,p20,p21,p22,p23,hlt8⟩:=HKF.out _ hn1; have HX1:=aa hx1; clear hx1 hb1)
  | fail)
 have HBR:=aa hn1.drew
 go_region_held3 (fun W => W.cell? ⟨w.heap.size,11,none⟩ = some (.int .i64 M.scope) /\ W.cell? ⟨w.heap.size,12,none⟩ = some (.int .i64 M.deref) /\ W.cell? ⟨w.heap.size,13,none⟩ = some (.int .i64 M.size) /\ W.cell? ⟨w.heap.size,14,none⟩ = some (.int .i64 M.time) /\ W.cell? ⟨w.heap.size,15,none⟩ = some (.bool M.types) /\ W.cell? ⟨w.heap.size,16,none⟩ = some (.int .i64 f.kind) /\ W.cell? ⟨w.heap.size,17,none⟩ = some (.string f.attr) /\ W.cell? ⟨w.heap.size,18,none⟩ = some (.string f.value) /\ W.cell? ⟨w.heap.size,19,none⟩ = some (.string f.first) /\ W.cell? ⟨w.heap.size,20,none⟩ = some (.slice f.any.A f.any.n f.any.c) /\ W.cell? ⟨w.heap.size,21,none⟩ = some (.string f.last) /\ W.cell? ⟨w.heap.size,22,none⟩ = some (.slice f.kids.A f.kids.n f.kids.c) /\ W.cell? ⟨w.heap.size,23,none⟩ = some (.slice at'.A at'.n at'.c))
  (first | (with_reducible exact HKS.out _ HBR.out) | (with_reducible exact HKS.out _ (by assumption)))
  (first
   | (go_at_call 24; (with_reducible refine (HN_scope.out _).mono ?_); rintro e w2 ⟨hb2,x2,rfl,hx2⟩; have hn2:=ag HBR.out hb2; have HX2:=aa hx2; obtain ⟨a2,E2,k2⟩:=cat HX1.out HX2.out (by have hn:=HN.out; (try simp only [List.length_append] at hn |-); omega); clear hx2 hb2)
   | (go_at_call 24; (with_reducible refine (HN_deref.out _).mono ?_); rintro e w3 ⟨hb3,x3,rfl,hx3⟩; have hn3:=ag hn2 hb3; have HX3:=aa hx3; obtain ⟨a3,E3,k3⟩:=cat E2.out HX3.out (by have hn:=HN.out; (try simp only [List.length_append] at hn |-); omega); clear hx3 hb3)
   | (go_at_call 24; (with_reducible refine (HN_size.out _).mono ?_); rintro e w4 ⟨hb4,x4,rfl,hx4⟩; have hn4:=ag hn3 hb4; have HX4:=aa hx4; obtain ⟨a4,E4,k4⟩:=cat E3.out HX4.out (by have hn:=HN.out; (try simp only [List.length_append] at hn |-); omega); clear hx4 hb4)
   | (go_at_call 24; (with_reducible refine (HN_time.out _).mono ?_); rintro e w5 ⟨hb5,x5,rfl,hx5⟩; have hn5:=ag hn4 hb5; have HX5:=aa hx5; obtain ⟨a5,E5,k5⟩:=cat E4.out HX5.out (by have hn:=HN.out; (try simp only [List.length_append] at hn |-); omega); clear hx5 hb5)
   | (go_at_call 27; (with_reducible refine (HTR.out _).mono ?_); rintro e w6 ⟨hb6,x6,rfl,hx6⟩; have hn6:=ag hn5 hb6; have HX6:=aa hx6; obtain ⟨a6,E6,k6⟩:=cat E5.out HX6.out (by have hn:=HN.out; (try simp only [List.length_append] at hn |-); omega); clear hx6 hb6)
   | (go_at_call 57; (with_reducible refine (HFI.out _ hn6).mono ?_); rintro e w7 ⟨hb7,x7,rfl,hx7⟩; have hn7:=ag hn6 hb7; have HX7:=aa hx7; obtain ⟨a7,E7,k7⟩:=cat E6.out HX7.out (by have hn:=HN.out; (try simp only [List.length_append] at hn |-); omega); clear hx7 hb7)
   | (go_at_call 58; (with_reducible refine (HTX.out _ hn7).mono ?_); rintro e w8 ⟨hb8,x8,rfl,hx8⟩; have hn8:=ag hn7 hb8; have HX8:=aa hx8; clear hx8 hb8)
   | (go_at_call 28; (with_reducible refine (HLI.out x8 HX8.out _).mono ?_); rintro e w10 ⟨hb10,x10,rfl,hx10⟩; have hn10:=ag hn8 hb10; have HX10:=aa hx10; obtain ⟨a10,E10,k10⟩:=cat E7.out HX10.out (by have hn:=HN.out; (try simp only [List.length_append] at hn |-); omega); clear hx10 hb10)
   | fail)
 all_goals
  obtain ⟨p1,p3,p11,p12,p13,p14,p15,p16,p17,p18,p19,p20,p21,p22,p23,hlt8⟩:=HKF.out _ hn10
  go_wp2_with (first
   | (go_at_call 29; go_must (with_reducible refine (HND.out a10 (by rw [E10.out]; simp only [PB.encs,List.append_assoc,List.append_nil]) _).mono ?_); rintro e w9 ⟨hb9,r,rfl,hr⟩; have HB9:=aa (HBX.out.trans ((ag hn10 hb9).mono HBX.out.size)); have HR:=aa hr; clear hb9 hr)
   | fail)
  go_ret
  exact ⟨HB9.out,r,rfl,HR.out⟩
theorem rop_ent4 (M : Ms) (m : MC) (S : Nat -> Prop) (w : World) (h : MsAt w S M m) (hop : M.op = 4) (hn1 : M.list.length <= 1000000) (hn2 : ∀ d ∈ M.list,d.2.length <= 1000000) (hl : (PB.encs M.entT).length < 15000000) :
  Calls Tryz.prog 25 #[.agg m.cells] w (RefS (PB.enc (.mk 1 true 4 ⟨#[]⟩ M.entT)) w):=by
 have HND:=aa fun (s : ByteArray) (hs : s.data.toList = PB.encs M.entT) (W : World) => cK 1 4 s M.entT W (by omega) (by omega) hs (by omega)
 obtain ⟨f,at',li,mo,de,co,hm,⟨hz_name,hz_secret,hz_kind,hz_value,hz_text,hz_rdn⟩,hfl,hat,hli,hmo,hde,hco⟩:=h
 obtain ⟨cs,hcs⟩ : ∃ cs,cs = m.cells:=⟨_,rfl⟩
 have c1 : cs[1]? = some (.int .i64 M.op):=by rw [hcs,hm]; rfl
 have c3 : cs[3]? = some (.string M.name):=by rw [hcs,hm]; rfl
 have c24 : cs[24]? = some (.slice li.A li.n li.c):=by rw [hcs,hm]; rfl
 rw [hop] at c1
 rw [<- hcs]
 obtain ⟨wc,hwc⟩ : ∃ W,W = w.alloc (.cells cs 30):=⟨_,rfl⟩
 have hbx : Below w.heap.size w wc:=by rw [hwc]; exact (Below.refl w.heap.size w).alloc (Nat.le_refl _) _
 have hkx : Bk wc w.heap.size 30 cs:=by rw [hwc]; exact Bk.new w _ cs
 have HBX:=aa hbx
 have HKX:=aa hkx
 have HWC:=aa hwc
 have p1 : (w.alloc (.cells cs 30)).cell? ⟨w.heap.size,1,none⟩ = some (.int .i64 4):=by rw [<- hwc]; exact (hkx.cell 1).trans c1
 have p3 : (w.alloc (.cells cs 30)).cell? ⟨w.heap.size,3,none⟩ = some (.string M.name):=by rw [<- hwc]; exact (hkx.cell 3).trans c3
 have p24 : (w.alloc (.cells cs 30)).cell? ⟨w.heap.size,24,none⟩ = some (.slice li.A li.n li.c):=by rw [<- hwc]; exact (hkx.cell 24).trans c24
 have HKF:=aa fun (W : World) (hb : Below wc.heap.size wc W) => (show W.cell? ⟨w.heap.size,1,none⟩ = some (.int .i64 4) /\ W.cell? ⟨w.heap.size,3,none⟩ = some (.string M.name) /\ W.cell? ⟨w.heap.size,24,none⟩ = some (.slice li.A li.n li.c) /\ w.heap.size < W.heap.size from ⟨((af hkx hb).cell 1).trans c1,((af hkx hb).cell 3).trans c3,((af hkx hb).cell 24).trans c24,(af hkx hb).lt⟩)
 unfold Ms.entT at hl HND |-
 rw [ai,ai,ar] at hl
 have s0:=cy 0 16 (M.list.map tat)
 have e0 : (PB.enc (aI (M.list.map tat))).length = (PB.enc (.mk 0 true 16 ⟨#[]⟩ (M.list.map tat))).length:=rfl
 have s1:=aB 0 4 M.name
 have e1 : (PB.enc (tstr M.name)).length = (PB.enc (.mk 0 false 4 M.name [])).length:=rfl
 have HT_name:=aa fun (W : World) => bf M.name W (by omega)
 have HTX:=aa fun (W : World) (hb : Below wc.heap.size wc W) => rattrs_any li S M.list W (RowOf.keep aH hli (T:=S) (hbx.trans (hb.mono hbx.size)).size (fun x _ hlt => (hbx.trans (hb.mono hbx.size)).block x hlt) (fun _ h _ => h)) hn1 hn2 (by omega)
 have HLI:=aa fun (s : ByteArray) (hs : s.data.toList = PB.encs (M.list.map tat)) (W : World) => cT s _ W hs (by omega)
 have HN:=aa (And.intro hl s0)
 clear hwc hbx hkx hcs hm hfl hat hli hmo hde hco hz_name hz_secret hz_kind hz_value hz_text hz_rdn c1 c3 c24 hl s0 e0 s1 e1 hn1 hn2 hop
 go_enter Tryz.func25,Tryz.ntmps25
 go_wp2_with (first
  | (go_at_call 26; (with_reducible refine (HT_name.out _).mono ?_); rintro e w1 ⟨hb1,x1,rfl,hx1⟩; rw [<- HWC.out] at hb1; have hn1:=hb1; obtain ⟨p1,p3,p24,hlt8⟩:=HKF.out _ hn1; have HX1:=aa hx1; clear hx1 hb1)
  | (go_at_call 59; (with_reducible refine (HTX.out _ hn1).mono ?_); rintro e w2 ⟨hb2,x2,rfl,hx2⟩; have hn2:=ag hn1 hb2; obtain ⟨p1,p3,p24,hlt8⟩:=HKF.out _ hn2; have HX2:=aa hx2; clear hx2 hb2)
  | (go_at_call 28; (with_reducible refine (HLI.out x2 HX2.out _).mono ?_); rintro e w3 ⟨hb3,x3,rfl,hx3⟩; have hn3:=ag hn2 hb3; obtain ⟨p1,p3,p24,hlt8⟩:=HKF.out _ hn3; have HX3:=aa hx3; obtain ⟨a3,E3,k3⟩:=cat HX1.out HX3.out (by have hn:=HN.out; (try simp only [List.length_append] at hn |-); omega); clear hx3 hb3)
  | (go_at_call 29; go_must (with_reducible refine (HND.out a3 (by rw [E3.out]; simp only [PB.encs,List.append_assoc,List.append_nil]) _).mono ?_); rintro e w9 ⟨hb9,r,rfl,hr⟩; have HB9:=aa (HBX.out.trans ((ag hn3 hb9).mono HBX.out.size)); have HR:=aa hr; clear hb9 hr)
  | fail)
 go_ret
 exact ⟨HB9.out,r,rfl,HR.out⟩
theorem rop_ent8 (M : Ms) (m : MC) (S : Nat -> Prop) (w : World) (h : MsAt w S M m) (hop : M.op = 8) (hn1 : M.list.length <= 1000000) (hn2 : ∀ d ∈ M.list,d.2.length <= 1000000) (hl : (PB.encs M.entT).length < 15000000) :
  Calls Tryz.prog 25 #[.agg m.cells] w (RefS (PB.enc (.mk 1 true 8 ⟨#[]⟩ M.entT)) w):=by
 have HND:=aa fun (s : ByteArray) (hs : s.data.toList = PB.encs M.entT) (W : World) => cK 1 8 s M.entT W (by omega) (by omega) hs (by omega)
 obtain ⟨f,at',li,mo,de,co,hm,⟨hz_name,hz_secret,hz_kind,hz_value,hz_text,hz_rdn⟩,hfl,hat,hli,hmo,hde,hco⟩:=h
 obtain ⟨cs,hcs⟩ : ∃ cs,cs = m.cells:=⟨_,rfl⟩
 have c1 : cs[1]? = some (.int .i64 M.op):=by rw [hcs,hm]; rfl
 have c3 : cs[3]? = some (.string M.name):=by rw [hcs,hm]; rfl
 have c24 : cs[24]? = some (.slice li.A li.n li.c):=by rw [hcs,hm]; rfl
 rw [hop] at c1
 rw [<- hcs]
 obtain ⟨wc,hwc⟩ : ∃ W,W = w.alloc (.cells cs 30):=⟨_,rfl⟩
 have hbx : Below w.heap.size w wc:=by rw [hwc]; exact (Below.refl w.heap.size w).alloc (Nat.le_refl _) _
 have hkx : Bk wc w.heap.size 30 cs:=by rw [hwc]; exact Bk.new w _ cs
 have HBX:=aa hbx
 have HKX:=aa hkx
 have HWC:=aa hwc
 have p1 : (w.alloc (.cells cs 30)).cell? ⟨w.heap.size,1,none⟩ = some (.int .i64 8):=by rw [<- hwc]; exact (hkx.cell 1).trans c1
 have p3 : (w.alloc (.cells cs 30)).cell? ⟨w.heap.size,3,none⟩ = some (.string M.name):=by rw [<- hwc]; exact (hkx.cell 3).trans c3
 have p24 : (w.alloc (.cells cs 30)).cell? ⟨w.heap.size,24,none⟩ = some (.slice li.A li.n li.c):=by rw [<- hwc]; exact (hkx.cell 24).trans c24
 have HKF:=aa fun (W : World) (hb : Below wc.heap.size wc W) => (show W.cell? ⟨w.heap.size,1,none⟩ = some (.int .i64 8) /\ W.cell? ⟨w.heap.size,3,none⟩ = some (.string M.name) /\ W.cell? ⟨w.heap.size,24,none⟩ = some (.slice li.A li.n li.c) /\ w.heap.size < W.heap.size from ⟨((af hkx hb).cell 1).trans c1,((af hkx hb).cell 3).trans c3,((af hkx hb).cell 24).trans c24,(af hkx hb).lt⟩)
 unfold Ms.entT at hl HND |-
 rw [ai,ai,ar] at hl
 have s0:=cy 0 16 (M.list.map tat)
 have e0 : (PB.enc (aI (M.list.map tat))).length = (PB.enc (.mk 0 true 16 ⟨#[]⟩ (M.list.map tat))).length:=rfl
 have s1:=aB 0 4 M.name
 have e1 : (PB.enc (tstr M.name)).length = (PB.enc (.mk 0 false 4 M.name [])).length:=rfl
 have HT_name:=aa fun (W : World) => bf M.name W (by omega)
 have HTX:=aa fun (W : World) (hb : Below wc.heap.size wc W) => rattrs_any li S M.list W (RowOf.keep aH hli (T:=S) (hbx.trans (hb.mono hbx.size)).size (fun x _ hlt => (hbx.trans (hb.mono hbx.size)).block x hlt) (fun _ h _ => h)) hn1 hn2 (by omega)
 have HLI:=aa fun (s : ByteArray) (hs : s.data.toList = PB.encs (M.list.map tat)) (W : World) => cT s _ W hs (by omega)
 have HN:=aa (And.intro hl s0)
 clear hwc hbx hkx hcs hm hfl hat hli hmo hde hco hz_name hz_secret hz_kind hz_value hz_text hz_rdn c1 c3 c24 hl s0 e0 s1 e1 hn1 hn2 hop
 go_enter Tryz.func25,Tryz.ntmps25
 go_wp2_with (first
  | (go_at_call 26; (with_reducible refine (HT_name.out _).mono ?_); rintro e w1 ⟨hb1,x1,rfl,hx1⟩; rw [<- HWC.out] at hb1; have hn1:=hb1; obtain ⟨p1,p3,p24,hlt8⟩:=HKF.out _ hn1; have HX1:=aa hx1; clear hx1 hb1)
  | (go_at_call 59; (with_reducible refine (HTX.out _ hn1).mono ?_); rintro e w2 ⟨hb2,x2,rfl,hx2⟩; have hn2:=ag hn1 hb2; obtain ⟨p1,p3,p24,hlt8⟩:=HKF.out _ hn2; have HX2:=aa hx2; clear hx2 hb2)
  | (go_at_call 28; (with_reducible refine (HLI.out x2 HX2.out _).mono ?_); rintro e w3 ⟨hb3,x3,rfl,hx3⟩; have hn3:=ag hn2 hb3; obtain ⟨p1,p3,p24,hlt8⟩:=HKF.out _ hn3; have HX3:=aa hx3; obtain ⟨a3,E3,k3⟩:=cat HX1.out HX3.out (by have hn:=HN.out; (try simp only [List.length_append] at hn |-); omega); clear hx3 hb3)
  | (go_at_call 29; go_must (with_reducible refine (HND.out a3 (by rw [E3.out]; simp only [PB.encs,List.append_assoc,List.append_nil]) _).mono ?_); rintro e w9 ⟨hb9,r,rfl,hr⟩; have HB9:=aa (HBX.out.trans ((ag hn3 hb9).mono HBX.out.size)); have HR:=aa hr; clear hb9 hr)
  | fail)
 go_ret
 exact ⟨HB9.out,r,rfl,HR.out⟩
theorem rop_mod (M : Ms) (m : MC) (S : Nat -> Prop) (w : World) (h : MsAt w S M m) (hop : M.op = 6) (hr : ∀ x ∈ M.mods,0 <= x.1 /\ x.1 < 2147483648) (hn1 : M.mods.length <= 1000000) (hn2 : ∀ d ∈ M.mods,d.2.2.length <= 1000000) (hl : (PB.encs M.modT).length < 15000000) :
  Calls Tryz.prog 25 #[.agg m.cells] w (RefS (PB.enc (.mk 1 true 6 ⟨#[]⟩ M.modT)) w):=by
 have HND:=aa fun (s : ByteArray) (hs : s.data.toList = PB.encs M.modT) (W : World) => cK 1 6 s M.modT W (by omega) (by omega) hs (by omega)
 have hmo0:=h
 obtain ⟨f,at',li,mo,de,co,hm,⟨hz_name,hz_secret,hz_kind,hz_value,hz_text,hz_rdn⟩,hfl,hat,hli,hmo,hde,hco⟩:=h
 obtain ⟨cs,hcs⟩ : ∃ cs,cs = m.cells:=⟨_,rfl⟩
 have c1 : cs[1]? = some (.int .i64 M.op):=by rw [hcs,hm]; rfl
 have c3 : cs[3]? = some (.string M.name):=by rw [hcs,hm]; rfl
 have c25 : cs[25]? = some (.slice mo.A mo.n mo.c):=by rw [hcs,hm]; rfl
 rw [hop] at c1
 rw [<- hcs]
 obtain ⟨wc,hwc⟩ : ∃ W,W = w.alloc (.cells cs 30):=⟨_,rfl⟩
 have hbx : Below w.heap.size w wc:=by rw [hwc]; exact (Below.refl w.heap.size w).alloc (Nat.le_refl _) _
 have hkx : Bk wc w.heap.size 30 cs:=by rw [hwc]; exact Bk.new w _ cs
 have HBX:=aa hbx
 have HKX:=aa hkx
 have HWC:=aa hwc
 have p1 : (w.alloc (.cells cs 30)).cell? ⟨w.heap.size,1,none⟩ = some (.int .i64 6):=by rw [<- hwc]; exact (hkx.cell 1).trans c1
 have p3 : (w.alloc (.cells cs 30)).cell? ⟨w.heap.size,3,none⟩ = some (.string M.name):=by rw [<- hwc]; exact (hkx.cell 3).trans c3
 have p25 : (w.alloc (.cells cs 30)).cell? ⟨w.heap.size,25,none⟩ = some (.slice mo.A mo.n mo.c):=by rw [<- hwc]; exact (hkx.cell 25).trans c25
 have HKF:=aa fun (W : World) (hb : Below wc.heap.size wc W) => (show W.cell? ⟨w.heap.size,1,none⟩ = some (.int .i64 6) /\ W.cell? ⟨w.heap.size,3,none⟩ = some (.string M.name) /\ W.cell? ⟨w.heap.size,25,none⟩ = some (.slice mo.A mo.n mo.c) /\ w.heap.size < W.heap.size from ⟨((af hkx hb).cell 1).trans c1,((af hkx hb).cell 3).trans c3,((af hkx hb).cell 25).trans c25,(af hkx hb).lt⟩)
 unfold Ms.modT at hl HND |-
 rw [ai,ai,ar] at hl
 have s0:=cy 0 16 (M.mods.map tmod)
 have e0 : (PB.enc (aI (M.mods.map tmod))).length = (PB.enc (.mk 0 true 16 ⟨#[]⟩ (M.mods.map tmod))).length:=rfl
 have s1:=aB 0 4 M.name
 have e1 : (PB.enc (tstr M.name)).length = (PB.enc (.mk 0 false 4 M.name [])).length:=rfl
 have HT_name:=aa fun (W : World) => bf M.name W (by omega)
 have HLI:=aa fun (s : ByteArray) (hs : s.data.toList = PB.encs (M.mods.map tmod)) (W : World) => cT s _ W hs (by omega)
 have HLEN:=aa (show (PB.encs (M.mods.map tmod)).length < 15000000 by omega)
 have HN:=aa (And.intro hl s0)
 have HR0:=aa hr
 have HN2:=aa hn2
 obtain ⟨q0,q1,q2,q3⟩:=hmo
 have H4:=aa q3
 have HBXB:=HBX
 obtain ⟨⟨A,nn,cap⟩,hv⟩ : ∃ r,r = mo:=⟨_,rfl⟩
 rw [<- hv] at H4 q0 q1 q2 p25 HKF
 simp only at H4 q0 q1 q2 p25 HKF
 subst q0
 have hcm : cap <= 9223372036854775807:=by unfold maxLen at q2; omega
 clear hwc hbx hkx hcs hm hfl hat hli hde hco hz_name hz_secret hz_kind hz_value hz_text hz_rdn c1 c3 c25 hl s0 e0 s1 e1 hr hn1 hn2 hop hmo0 q3 q2 hv
 go_enter Tryz.func25,Tryz.ntmps25
 go_wp2_with (first
  | (go_at_call 26; (with_reducible refine (HT_name.out _).mono ?_); rintro e w1 ⟨hb1,x1,rfl,hx1⟩; rw [<- HWC.out] at hb1; have hn1:=hb1; obtain ⟨p1,p3,p25,hlt8⟩:=HKF.out _ hn1; have HX1:=aa hx1; clear hx1 hb1)
  | fail)
 have HW1:=aa hn1
 go_loopw [5,6] (fun u i wr => ∃ (j : Nat) (s : ByteArray),i = .int .i64 j /\ u = .string s /\ j <= M.mods.length /\ Hid (s.data.toList = PB.encs ((M.mods.take j).map tmod)) /\ Below wc.heap.size wc wr) (fun _ i _ => M.mods.length - (intOf i).toNat)
 case atStart => exact ⟨0,⟨#[]⟩,rfl,rfl,Nat.zero_le _,by unfold Hid; simp [PB.encs],HW1.out⟩
 case round =>
  obtain ⟨j,s,rfl,rfl,hj,HS,hbw⟩:=hrel
  have HBW:=aa hbw
  obtain ⟨p1,p3,p25,hlt8⟩:=HKF.out _ hbw
  by_cases hlt : j < M.mods.length
  ·have z1 : decide ((j : Int) < (M.mods.length : Int)) = true:=ab (by omega)
   have hx : M.mods[j]? = some M.mods[j]:=List.getElem?_eq_getElem hlt
   obtain ⟨b,o,c,rfl,hS,hcl,hc,hat9⟩:=H4.out j M.mods[j] hx
   have hbx2:=HBX.out.trans (hbw.mono HBX.out.size)
   have hbl : b < wr.heap.size:=Nat.lt_of_lt_of_le hS.2 hbx2.size
   have hcw : ∀ o',wr.cell? ⟨b,o',none⟩ = w.cell? ⟨b,o',none⟩:=fun o' => hbx2.cell (p:=⟨b,o',none⟩) hS.2
   have hmem:=List.getElem_mem hlt
   obtain ⟨d,hd⟩ : ∃ d,d = M.mods[j]:=⟨_,rfl⟩
   rw [<- hd] at hat9 hx hmem
   obtain ⟨⟨qA,qn,qc⟩,rfl,hsz,hss⟩:=hat9
   have hsl:=cX hss
   obtain ⟨u1,u2,u3,u4⟩:=hss
   simp only at u1 u2 u3 hsl
   subst u1
   have q1 : wr.cell? ⟨b,o + j * 3,none⟩ = some (.int .i64 d.1):=(hcw _).trans (hc 0 _ rfl)
   have q2 : wr.cell? ⟨b,o + j * 3 + 1,none⟩ = some (.string d.2.1):=(hcw _).trans (hc 1 _ rfl)
   have q3 : wr.cell? ⟨b,o + j * 3 + 2,none⟩ = some (.slice qA d.2.2.length qc):=(hcw _).trans (hc 2 _ rfl)
   have HXM:=aa (cM (tl:=tmod) hx)
   have hle : (PB.enc (tmod d)).length <= (PB.encs (M.mods.map tmod)).length:=cQ (List.mem_map_of_mem hmem)
   have hll:=HLEN.out
   have e9 : (PB.enc (tmod d)).length = (PB.enc (.mk 0 true 16 ⟨#[]⟩ [tnum 10 d.1,cv d.2.1 d.2.2])).length:=rfl
   have s9:=cy 0 16 [tnum 10 d.1,cv d.2.1 d.2.2]
   rw [ai,ai,ar] at s9
   have hr9:=HR0.out d hmem
   have HC1:=aa fun (W : World) => fe 10 d.1 W (by omega) hr9
   have HC2:=aa fun (W : World) (hb : Below wc.heap.size wc W) => rattr_any d.2.1 qA qc d.2.2 W (hsl.off (Off.of_below (HBX.out.trans (hb.mono HBX.out.size)) []) (by simp)) (HN2.out d hmem) (by omega)
   have HC3:=aa fun (s : ByteArray) (hs : s.data.toList = PB.encs [tnum 10 d.1,cv d.2.1 d.2.2]) (W : World) => cT s _ W hs (by rw [ai,ai,ar]; omega)
   have htk : (PB.encs ((M.mods.take j).map tmod)).length <= (PB.encs (M.mods.map tmod)).length:=by rw [List.map_take]; exact cL _ _
   have HNJ:=aa (show (PB.encs ((M.mods.take j).map tmod)).length < 15000000 /\ (PB.enc (tnum 10 d.1)).length + (PB.enc (cv d.2.1 d.2.2)).length < 15000000 /\ (PB.enc (aI [tnum 10 d.1,cv d.2.1 d.2.2])).length < 15000000 by
    have : (PB.enc (aI [tnum 10 d.1,cv d.2.1 d.2.2])).length = (PB.enc (tmod d)).length:=rfl
    omega)
   have HKS:=aa fun (W : World) (hb : Below wr.heap.size wr W) => (show W.cell? ⟨w.heap.size,25,none⟩ = some (.slice (some ⟨b,o,none⟩) M.mods.length cap) /\ W.cell? ⟨b,o + j * 3,none⟩ = some (.int .i64 d.1) /\ W.cell? ⟨b,o + j * 3 + 1,none⟩ = some (.string d.2.1) /\ W.cell? ⟨b,o + j * 3 + 2,none⟩ = some (.slice qA d.2.2.length qc) from ⟨(hb.cell (p:=⟨w.heap.size,25,none⟩) hlt8).trans p25,(hb.cell (p:=⟨b,o + j * 3,none⟩) hbl).trans q1,(hb.cell (p:=⟨b,o + j * 3 + 1,none⟩) hbl).trans q2,(hb.cell (p:=⟨b,o + j * 3 + 2,none⟩) hbl).trans q3⟩)
   have HBR:=aa (Below.refl wr.heap.size wr).drew
   clear hx hc hd hle hll hS hcl hcw hsl u4 hbw hmem hbx2 e9 s9 hr9 htk hsz hn1
   go_wp2_with fail
   go_region_held3 (fun W => W.cell? ⟨w.heap.size,25,none⟩ = some (.slice (some ⟨b,o,none⟩) M.mods.length cap) /\ W.cell? ⟨b,o + j * 3,none⟩ = some (.int .i64 d.1) /\ W.cell? ⟨b,o + j * 3 + 1,none⟩ = some (.string d.2.1) /\ W.cell? ⟨b,o + j * 3 + 2,none⟩ = some (.slice qA d.2.2.length qc))
    (first | (with_reducible exact HKS.out _ HBR.out) | (with_reducible exact HKS.out _ (by assumption)))
    (first
     | (go_at_call 24; (with_reducible refine (HC1.out _).mono ?_); rintro e w2 ⟨hb2,x2,rfl,hx2⟩; have hn2:=ag HBR.out hb2; have HX2:=aa hx2; clear hb2 hx2)
     | (go_at_call 60; (refine (HC2.out _ (HBW.out.trans (hn2.mono HBW.out.size))).mono ?_); rintro e w3 ⟨hb3,x3,rfl,hx3⟩; have hn3:=ag hn2 hb3; have HX3:=aa hx3; obtain ⟨a3,E3,k3⟩:=cat HX2.out HX3.out (by have hn:=HNJ.out; omega); clear hb3 hx3)
     | (go_at_call 28; (refine (HC3.out a3 (by rw [E3.out,PB.encs,PB.encs,PB.encs,List.append_nil]) _).mono ?_); rintro e w4 ⟨hb4,x4,rfl,hx4⟩; have hn4:=ag hn3 hb4; have HX4:=aa hx4; obtain ⟨a4,E4,k4⟩:=cat HS.out HX4.out (by have hn:=HNJ.out; omega); clear hb4 hx4)
     | fail)
   all_goals
    have HB4:=aa (HBW.out.trans (hn4.mono HBW.out.size))
    go_wp2_with fail
    go_roundw
    case rel => exact ⟨j + 1,a4,by go_num,rfl,by omega,by unfold Hid; rw [E4.out,HXM.out]; rfl,HB4.out⟩
    case measure => simp [intOf]; omega
  ·have z1 : decide ((j : Int) < (M.mods.length : Int)) = false:=ae (by omega)
   have HF:=aa (show s.data.toList = PB.encs (M.mods.map tmod) by rw [HS.out,List.take_of_length_le (by omega)])
   clear hbw
   go_wp2_with (first
    | (go_at_call 28; (with_reducible refine (HLI.out s HF.out _).mono ?_); rintro e w3 ⟨hb3,x3,rfl,hx3⟩; have hn3:=ag HBW.out hb3; obtain ⟨p1,p3,p25,hlt8⟩:=HKF.out _ hn3; have HX3:=aa hx3; obtain ⟨a3,E3,k3⟩:=cat HX1.out HX3.out (by have hn:=HN.out; (try simp only [List.length_append] at hn |-); omega); clear hx3 hb3)
    | (go_at_call 29; go_must (with_reducible refine (HND.out a3 (by rw [E3.out]; simp only [PB.encs,List.append_assoc,List.append_nil]) _).mono ?_); rintro e w9 ⟨hb9,r,rfl,hr⟩; have HB9:=aa (HBX.out.trans ((ag hn3 hb9).mono HBX.out.size)); have HR:=aa hr; clear hb9 hr)
    | fail)
   go_ret
   exact ⟨HB9.out,r,rfl,HR.out⟩
end Go.Proofs.YtbiglfpikfjbpaaGreatDoor
