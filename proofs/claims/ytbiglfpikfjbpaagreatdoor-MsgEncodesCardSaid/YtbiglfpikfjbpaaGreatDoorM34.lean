import Derived.Test.YtbiglfpikfjbpaaGreatDoorM32
import Derived.Test.YtbiglfpikfjbpaaGreatDoorM33
namespace Go.Proofs.YtbiglfpikfjbpaaGreatDoor
open Go.RowKit
set_option maxRecDepth 100000
set_option linter.unusedVariables false
set_option linter.unusedSimpArgs false
set_option maxHeartbeats 40000000
theorem of_attr_row (q : Rw) (ss : List At) (S : Nat -> Prop) (w : World) (h : RowOf 2 bQ w S q ss) (hn : ss.length <= 1000000) (hv : ∀ a ∈ ss,a.2.length <= 1000000) :
  Calls Tryz.prog 77 #[.slice q.A q.n q.c,.func (.func 78) #[] #[]] w (aN (ss.map tat) w):=by
 have:=of_attr q.A q.c ss S tat w (by rw [<- h.1]; exact h) hn (fun s hs W c _ hat => attr_do s c S W hat (hv s hs))
 rw [<- h.1] at this
 exact this
theorem of_mod_row (q : Rw) (ss : List Md) (S : Nat -> Prop) (w : World) (h : RowOf 3 dy w S q ss) (hn : ss.length <= 1000000) (hv : ∀ a ∈ ss,a.2.2.length <= 1000000 /\ in64 a.1) :
  Calls Tryz.prog 80 #[.slice q.A q.n q.c,.func (.func 81) #[] #[]] w (aN (ss.map tmod) w):=by
 have:=of_mod q.A q.c ss S tmod w (by rw [<- h.1]; exact h) hn (fun s hs W c _ hat => mod_do s c S W hat (hv s hs).1 (hv s hs).2)
 rw [<- h.1] at this
 exact this
theorem partsw_4 (M : Ms) (m : MC) (S : Nat -> Prop) (w : World) (h : MsAt w S M m) (hop : M.op = 4) (hl : M.list.length <= 1000000) (hv : ∀ a ∈ M.list,a.2.length <= 1000000) :
  Calls Tryz.prog 51 #[.agg m.cells] w (aN M.entT w):=by
 obtain ⟨i0,hi,iz0,iz1,iz2⟩:=info_parts aR
 obtain ⟨f,at',li,mo,de,co,hm,⟨hz_name,hz_secret,hz_kind,hz_value,hz_text,hz_rdn⟩,hfl,hat,hli,hmo,hde,hco⟩:=h
 obtain ⟨cs,hcs⟩ : ∃ cs,cs = m.cells:=⟨_,rfl⟩
 have c3 : cs[3]? = some (.string M.name):=by rw [hcs,hm]; rfl
 have c24 : cs[24]? = some (.slice li.A li.n li.c):=by rw [hcs,hm]; rfl
 have c1 : cs[1]? = some (.int .i64 4):=by rw [hcs,hm,<- hop]; rfl
 have HSZ : Hid (cs.size = 31):=by rw [hcs]; rfl
 have HCS:=aa hcs
 rw [<- hcs]
 obtain ⟨wc,hwc⟩ : ∃ W,W = w.alloc (.cells cs 30):=⟨_,rfl⟩
 have hbx : Below w.heap.size w wc:=by rw [hwc]; exact (Below.refl w.heap.size w).alloc (Nat.le_refl _) _
 have hkx : Bk wc w.heap.size 30 cs:=by rw [hwc]; exact Bk.new w _ cs
 have HBX:=aa hbx
 have HKX:=aa hkx
 have HZ_name:=aa hz_name
 have HZ_secret:=aa hz_secret
 have HZ_kind:=aa hz_kind
 have HZ_value:=aa hz_value
 have HZ_text:=aa hz_text
 have HZ_rdn:=aa hz_rdn
 have C3:=aa c3
 have C24:=aa c24
 have C1:=aa c1
 have HT_name:=aa fun (W : World) => aX M.name W HZ_name.out
 have hkp:=fun (W : World) (hb : Below wc.heap.size wc W) => hbx.trans (hb.mono hbx.size)
 have HOF:=aa fun (W : World) (hb : Below wc.heap.size wc W) => of_attr_row li M.list S W (RowOf.keep aH hli (T:=S) (hkp W hb).size (fun x _ hlt => (hkp W hb).block x hlt) (fun _ h _ => h)) hl hv
 clear hkp
 have p1 : (w.alloc (.cells cs 30)).cell? ⟨w.heap.size,1,none⟩ = some (.int .i64 4):=by rw [<- hwc]; exact (hkx.cell 1).trans c1
 have HBR:=aa (Below.refl wc.heap.size wc).drew
 have HKS:=aa fun (W : World) (hb : Below wc.heap.size wc W) => (show W.cell? ⟨w.heap.size,3,none⟩ = some (.string M.name) /\ W.cell? ⟨w.heap.size,24,none⟩ = some (.slice li.A li.n li.c) /\ Below wc.heap.size wc W from
  ⟨((af hkx hb).cell 3).trans C3.out,((af hkx hb).cell 24).trans C24.out,hb⟩)
 have HWC:=aa hwc
 clear hwc hbx hkx hcs hm hfl hat hli hmo hde hco c1 hz_name hz_secret hz_kind hz_value hz_text hz_rdn c3 c24 hl hv hop
 go_enter Tryz.func51,Tryz.ntmps51
 go_wp2_with fail
 rw [<- HWC.out]
 go_region_held3 (fun W => W.cell? ⟨w.heap.size,3,none⟩ = some (.string M.name) /\ W.cell? ⟨w.heap.size,24,none⟩ = some (.slice li.A li.n li.c) /\ Below wc.heap.size wc W)
  (first | (with_reducible exact HKS.out _ HBR.out) | (with_reducible exact HKS.out _ (by assumption)) | (with_reducible exact HKS.out _ (bel1 (by assumption) _)))
  (first
   | (go_at_call 52; (with_reducible refine (HT_name.out _).mono ?_); rintro e w1 ⟨hb1,cs1,rfl,ht1⟩; obtain ⟨a10,a11,a12,a13,a1A,a1n,a1c,rfl⟩:=ak ht1; have hn1:=ag HBR.out hb1)
   | (go_at_call 77; refine (HOF.out _ hn1).mono ?_; rintro e w2 ⟨hb2,q2,rfl,hq2⟩; have hn2:=ag hn1 hb2)
   | (go_at_call 18; refine (bD _ _ _ _).mono ?_; rintro e w3 ⟨rfl,hb3⟩; have hn3:=ag hn2 hb3)
   | fail)
 all_goals
  have h0:=HBX.out.trans (hn3.mono HBX.out.size)
  have HP:=aa (dJ (w:=w) (w8:=w3) (n:=2) (ts:=M.entT) [[.int .i64 a10,.bool a11,.int .i64 a12,.string a13,.slice a1A a1n a1c],[.int .i64 0,.bool true,.int .i64 16,.string ⟨#[]⟩,.slice q2.A q2.n q2.c]] #[.int .i64 a10,.bool a11,.int .i64 a12,.string a13,.slice a1A a1n a1c,.int .i64 0,.bool true,.int .i64 16,.string ⟨#[]⟩,.slice q2.A q2.n q2.c] h0 rfl
   (by
    exact ⟨⟨rfl,TlAt.up ht1 (ag (ag (Below.refl _ _) hb2) hb3) HBX.out.size⟩,⟨rfl,TlAt.up (bX 0 16 true ⟨#[]⟩ hq2 rfl rfl (Nat.zero_le _)) (ag (Below.refl _ _) hb3) (HBX.out.trans (hn1.mono HBX.out.size)).size⟩,trivial⟩) rfl (by omega))
  go_wp2_with fail
  go_ret
  exact HP.out
theorem partsw_8 (M : Ms) (m : MC) (S : Nat -> Prop) (w : World) (h : MsAt w S M m) (hop : M.op = 8) (hl : M.list.length <= 1000000) (hv : ∀ a ∈ M.list,a.2.length <= 1000000) :
  Calls Tryz.prog 51 #[.agg m.cells] w (aN M.entT w):=by
 obtain ⟨i0,hi,iz0,iz1,iz2⟩:=info_parts aR
 obtain ⟨f,at',li,mo,de,co,hm,⟨hz_name,hz_secret,hz_kind,hz_value,hz_text,hz_rdn⟩,hfl,hat,hli,hmo,hde,hco⟩:=h
 obtain ⟨cs,hcs⟩ : ∃ cs,cs = m.cells:=⟨_,rfl⟩
 have c3 : cs[3]? = some (.string M.name):=by rw [hcs,hm]; rfl
 have c24 : cs[24]? = some (.slice li.A li.n li.c):=by rw [hcs,hm]; rfl
 have c1 : cs[1]? = some (.int .i64 8):=by rw [hcs,hm,<- hop]; rfl
 have HSZ : Hid (cs.size = 31):=by rw [hcs]; rfl
 have HCS:=aa hcs
 rw [<- hcs]
 obtain ⟨wc,hwc⟩ : ∃ W,W = w.alloc (.cells cs 30):=⟨_,rfl⟩
 have hbx : Below w.heap.size w wc:=by rw [hwc]; exact (Below.refl w.heap.size w).alloc (Nat.le_refl _) _
 have hkx : Bk wc w.heap.size 30 cs:=by rw [hwc]; exact Bk.new w _ cs
 have HBX:=aa hbx
 have HKX:=aa hkx
 have HZ_name:=aa hz_name
 have HZ_secret:=aa hz_secret
 have HZ_kind:=aa hz_kind
 have HZ_value:=aa hz_value
 have HZ_text:=aa hz_text
 have HZ_rdn:=aa hz_rdn
 have C3:=aa c3
 have C24:=aa c24
 have C1:=aa c1
 have HT_name:=aa fun (W : World) => aX M.name W HZ_name.out
 have hkp:=fun (W : World) (hb : Below wc.heap.size wc W) => hbx.trans (hb.mono hbx.size)
 have HOF:=aa fun (W : World) (hb : Below wc.heap.size wc W) => of_attr_row li M.list S W (RowOf.keep aH hli (T:=S) (hkp W hb).size (fun x _ hlt => (hkp W hb).block x hlt) (fun _ h _ => h)) hl hv
 clear hkp
 have p1 : (w.alloc (.cells cs 30)).cell? ⟨w.heap.size,1,none⟩ = some (.int .i64 8):=by rw [<- hwc]; exact (hkx.cell 1).trans c1
 have HBR:=aa (Below.refl wc.heap.size wc).drew
 have HKS:=aa fun (W : World) (hb : Below wc.heap.size wc W) => (show W.cell? ⟨w.heap.size,3,none⟩ = some (.string M.name) /\ W.cell? ⟨w.heap.size,24,none⟩ = some (.slice li.A li.n li.c) /\ Below wc.heap.size wc W from
  ⟨((af hkx hb).cell 3).trans C3.out,((af hkx hb).cell 24).trans C24.out,hb⟩)
 have HWC:=aa hwc
 clear hwc hbx hkx hcs hm hfl hat hli hmo hde hco c1 hz_name hz_secret hz_kind hz_value hz_text hz_rdn c3 c24 hl hv hop
 go_enter Tryz.func51,Tryz.ntmps51
 go_wp2_with fail
 rw [<- HWC.out]
 go_region_held3 (fun W => W.cell? ⟨w.heap.size,3,none⟩ = some (.string M.name) /\ W.cell? ⟨w.heap.size,24,none⟩ = some (.slice li.A li.n li.c) /\ Below wc.heap.size wc W)
  (first | (with_reducible exact HKS.out _ HBR.out) | (with_reducible exact HKS.out _ (by assumption)) | (with_reducible exact HKS.out _ (bel1 (by assumption) _)))
  (first
   | (go_at_call 52; (with_reducible refine (HT_name.out _).mono ?_); rintro e w1 ⟨hb1,cs1,rfl,ht1⟩; obtain ⟨a10,a11,a12,a13,a1A,a1n,a1c,rfl⟩:=ak ht1; have hn1:=ag HBR.out hb1)
   | (go_at_call 77; refine (HOF.out _ hn1).mono ?_; rintro e w2 ⟨hb2,q2,rfl,hq2⟩; have hn2:=ag hn1 hb2)
   | (go_at_call 18; refine (bD _ _ _ _).mono ?_; rintro e w3 ⟨rfl,hb3⟩; have hn3:=ag hn2 hb3)
   | fail)
 all_goals
  have h0:=HBX.out.trans (hn3.mono HBX.out.size)
  have HP:=aa (dJ (w:=w) (w8:=w3) (n:=2) (ts:=M.entT) [[.int .i64 a10,.bool a11,.int .i64 a12,.string a13,.slice a1A a1n a1c],[.int .i64 0,.bool true,.int .i64 16,.string ⟨#[]⟩,.slice q2.A q2.n q2.c]] #[.int .i64 a10,.bool a11,.int .i64 a12,.string a13,.slice a1A a1n a1c,.int .i64 0,.bool true,.int .i64 16,.string ⟨#[]⟩,.slice q2.A q2.n q2.c] h0 rfl
   (by
    exact ⟨⟨rfl,TlAt.up ht1 (ag (ag (Below.refl _ _) hb2) hb3) HBX.out.size⟩,⟨rfl,TlAt.up (bX 0 16 true ⟨#[]⟩ hq2 rfl rfl (Nat.zero_le _)) (ag (Below.refl _ _) hb3) (HBX.out.trans (hn1.mono HBX.out.size)).size⟩,trivial⟩) rfl (by omega))
  go_wp2_with fail
  go_ret
  exact HP.out
theorem partsw_14 (M : Ms) (m : MC) (S : Nat -> Prop) (w : World) (h : MsAt w S M m) (hop : M.op = 14) :
  Calls Tryz.prog 51 #[.agg m.cells] w (aN M.cmpT w):=by
 obtain ⟨i0,hi,iz0,iz1,iz2⟩:=info_parts aR
 obtain ⟨f,at',li,mo,de,co,hm,⟨hz_name,hz_secret,hz_kind,hz_value,hz_text,hz_rdn⟩,hfl,hat,hli,hmo,hde,hco⟩:=h
 obtain ⟨cs,hcs⟩ : ∃ cs,cs = m.cells:=⟨_,rfl⟩
 have c3 : cs[3]? = some (.string M.name):=by rw [hcs,hm]; rfl
 have c6 : cs[6]? = some (.string M.kind):=by rw [hcs,hm]; rfl
 have c8 : cs[8]? = some (.string M.value):=by rw [hcs,hm]; rfl
 have c1 : cs[1]? = some (.int .i64 14):=by rw [hcs,hm,<- hop]; rfl
 have HSZ : Hid (cs.size = 31):=by rw [hcs]; rfl
 have HCS:=aa hcs
 rw [<- hcs]
 obtain ⟨wc,hwc⟩ : ∃ W,W = w.alloc (.cells cs 30):=⟨_,rfl⟩
 have hbx : Below w.heap.size w wc:=by rw [hwc]; exact (Below.refl w.heap.size w).alloc (Nat.le_refl _) _
 have hkx : Bk wc w.heap.size 30 cs:=by rw [hwc]; exact Bk.new w _ cs
 have HBX:=aa hbx
 have HKX:=aa hkx
 have HZ_name:=aa hz_name
 have HZ_secret:=aa hz_secret
 have HZ_kind:=aa hz_kind
 have HZ_value:=aa hz_value
 have HZ_text:=aa hz_text
 have HZ_rdn:=aa hz_rdn
 have C3:=aa c3
 have C6:=aa c6
 have C8:=aa c8
 have C1:=aa c1
 have HT_name:=aa fun (W : World) => aX M.name W HZ_name.out
 have HT_kind:=aa fun (W : World) => aX M.kind W HZ_kind.out
 have HT_value:=aa fun (W : World) => aX M.value W HZ_value.out
 have p1 : (w.alloc (.cells cs 30)).cell? ⟨w.heap.size,1,none⟩ = some (.int .i64 14):=by rw [<- hwc]; exact (hkx.cell 1).trans c1
 have HBR:=aa (Below.refl wc.heap.size wc).drew
 have HKS:=aa fun (W : World) (hb : Below wc.heap.size wc W) => (show W.cell? ⟨w.heap.size,3,none⟩ = some (.string M.name) /\ W.cell? ⟨w.heap.size,6,none⟩ = some (.string M.kind) /\ W.cell? ⟨w.heap.size,8,none⟩ = some (.string M.value) /\ Below wc.heap.size wc W from
  ⟨((af hkx hb).cell 3).trans C3.out,((af hkx hb).cell 6).trans C6.out,((af hkx hb).cell 8).trans C8.out,hb⟩)
 have HWC:=aa hwc
 clear hwc hbx hkx hcs hm hfl hat hli hmo hde hco c1 hz_name hz_secret hz_kind hz_value hz_text hz_rdn c3 c6 c8 hop
 go_enter Tryz.func51,Tryz.ntmps51
 go_wp2_with fail
 rw [<- HWC.out]
 go_region_held3 (fun W => W.cell? ⟨w.heap.size,3,none⟩ = some (.string M.name) /\ W.cell? ⟨w.heap.size,6,none⟩ = some (.string M.kind) /\ W.cell? ⟨w.heap.size,8,none⟩ = some (.string M.value) /\ Below wc.heap.size wc W)
  (first | (with_reducible exact HKS.out _ HBR.out) | (with_reducible exact HKS.out _ (by assumption)) | (with_reducible exact HKS.out _ (bel1 (by assumption) _)))
  (first
   | (go_at_call 52; (with_reducible refine (HT_name.out _).mono ?_); rintro e w1 ⟨hb1,cs1,rfl,ht1⟩; obtain ⟨a10,a11,a12,a13,a1A,a1n,a1c,rfl⟩:=ak ht1; have hn1:=ag HBR.out hb1)
   | (go_at_call 52; (with_reducible refine (HT_kind.out _).mono ?_); rintro e w2 ⟨hb2,cs2,rfl,ht2⟩; obtain ⟨a20,a21,a22,a23,a2A,a2n,a2c,rfl⟩:=ak ht2; have hn2:=ag hn1 hb2)
   | (go_at_call 52; (with_reducible refine (HT_value.out _).mono ?_); rintro e w3 ⟨hb3,cs3,rfl,ht3⟩; obtain ⟨a30,a31,a32,a33,a3A,a3n,a3c,rfl⟩:=ak ht3; have hn3:=ag hn2 hb3)
   | (go_at_call 18; refine (bD _ _ _ _).mono ?_; rintro e w4 ⟨rfl,hb4⟩; have hn4:=ag (bel1 hn3 _) hb4)
   | fail)
 all_goals
  have h0:=HBX.out.trans (hn4.mono HBX.out.size)
  have hrow:=fg (w8:=w3) (B:=w.heap.size) (n:=2) (ts:=[tstr M.kind,tstr M.value]) [[.int .i64 a20,.bool a21,.int .i64 a22,.string a23,.slice a2A a2n a2c],[.int .i64 a30,.bool a31,.int .i64 a32,.string a33,.slice a3A a3n a3c]] #[.int .i64 a20,.bool a21,.int .i64 a22,.string a23,.slice a2A a2n a2c,.int .i64 a30,.bool a31,.int .i64 a32,.string a33,.slice a3A a3n a3c] (HBX.out.trans (hn3.mono HBX.out.size)).size rfl
   ⟨⟨rfl,aw ht2 _ _⟩,⟨rfl,aw ht3 _ _⟩,trivial⟩ rfl (by omega)
  have HP:=aa (dJ (w:=w) (w8:=w4) (n:=2) (ts:=M.cmpT) [[.int .i64 a10,.bool a11,.int .i64 a12,.string a13,.slice a1A a1n a1c],[.int .i64 0,.bool true,.int .i64 16,.string ⟨#[]⟩,.slice (some ⟨w3.heap.size,0,none⟩) 2 2]] #[.int .i64 a10,.bool a11,.int .i64 a12,.string a13,.slice a1A a1n a1c,.int .i64 0,.bool true,.int .i64 16,.string ⟨#[]⟩,.slice (some ⟨w3.heap.size,0,none⟩) 2 2] h0 rfl
   (by
    exact ⟨⟨rfl,aw ht1 _ _⟩,⟨rfl,TlAt.up (bX 0 16 true ⟨#[]⟩ hrow rfl rfl (Nat.zero_le _)) hb4 (Nat.le_refl _)⟩,trivial⟩) rfl (by omega))
  go_wp2_with fail
  go_ret
  exact HP.out
theorem partsw_6 (M : Ms) (m : MC) (S : Nat -> Prop) (w : World) (h : MsAt w S M m) (hop : M.op = 6) (hl : M.mods.length <= 1000000) (hv : ∀ a ∈ M.mods,a.2.2.length <= 1000000 /\ in64 a.1) :
  Calls Tryz.prog 51 #[.agg m.cells] w (aN M.modT w):=by
 obtain ⟨i0,hi,iz0,iz1,iz2⟩:=info_parts aR
 obtain ⟨f,at',li,mo,de,co,hm,⟨hz_name,hz_secret,hz_kind,hz_value,hz_text,hz_rdn⟩,hfl,hat,hli,hmo,hde,hco⟩:=h
 obtain ⟨cs,hcs⟩ : ∃ cs,cs = m.cells:=⟨_,rfl⟩
 have c3 : cs[3]? = some (.string M.name):=by rw [hcs,hm]; rfl
 have c25 : cs[25]? = some (.slice mo.A mo.n mo.c):=by rw [hcs,hm]; rfl
 have c1 : cs[1]? = some (.int .i64 6):=by rw [hcs,hm,<- hop]; rfl
 have HSZ : Hid (cs.size = 31):=by rw [hcs]; rfl
 have HCS:=aa hcs
 rw [<- hcs]
 obtain ⟨wc,hwc⟩ : ∃ W,W = w.alloc (.cells cs 30):=⟨_,rfl⟩
 have hbx : Below w.heap.size w wc:=by rw [hwc]; exact (Below.refl w.heap.size w).alloc (Nat.le_refl _) _
 have hkx : Bk wc w.heap.size 30 cs:=by rw [hwc]; exact Bk.new w _ cs
 have HBX:=aa hbx
 have HKX:=aa hkx
 have HZ_name:=aa hz_name
 have HZ_secret:=aa hz_secret
 have HZ_kind:=aa hz_kind
 have HZ_value:=aa hz_value
 have HZ_text:=aa hz_text
 have HZ_rdn:=aa hz_rdn
 have C3:=aa c3
 have C25:=aa c25
 have C1:=aa c1
 have HT_name:=aa fun (W : World) => aX M.name W HZ_name.out
 have hkp:=fun (W : World) (hb : Below wc.heap.size wc W) => hbx.trans (hb.mono hbx.size)
 have HOF:=aa fun (W : World) (hb : Below wc.heap.size wc W) => of_mod_row mo M.mods S W (RowOf.keep bJ hmo (T:=S) (hkp W hb).size (fun x _ hlt => (hkp W hb).block x hlt) (fun _ h _ => h)) hl hv
 clear hkp
 have p25 : (w.alloc (.cells cs 30)).cell? ⟨w.heap.size,25,none⟩ = some (.slice mo.A mo.n mo.c):=by rw [<- hwc]; exact (hkx.cell 25).trans c25
 have p1 : (w.alloc (.cells cs 30)).cell? ⟨w.heap.size,1,none⟩ = some (.int .i64 6):=by rw [<- hwc]; exact (hkx.cell 1).trans c1
 have HBR:=aa (Below.refl wc.heap.size wc).drew
 have HKS:=aa fun (W : World) (hb : Below wc.heap.size wc W) => (show W.cell? ⟨w.heap.size,3,none⟩ = some (.string M.name) /\ W.cell? ⟨w.heap.size,25,none⟩ = some (.slice mo.A mo.n mo.c) /\ Below wc.heap.size wc W from
  ⟨((af hkx hb).cell 3).trans C3.out,((af hkx hb).cell 25).trans C25.out,hb⟩)
 have HWC:=aa hwc
 clear hwc hbx hkx hcs hm hfl hat hli hmo hde hco c1 hz_name hz_secret hz_kind hz_value hz_text hz_rdn c3 c25 hl hv hop
 go_enter Tryz.func51,Tryz.ntmps51
 go_wp2_with (first
  | (go_at_call 80; rw [<- HWC.out]; refine (HOF.out _ (Below.refl _ _)).mono ?_; rintro e w1 ⟨hb1,q1,rfl,hq1⟩; have hk1:=af HKX.out hb1; have p3 : w1.cell? ⟨w.heap.size,3,none⟩ = some (.string M.name):=(hk1.cell 3).trans C3.out; have hl1:=hk1.lt; have HB1:=aa hb1; have HQ1:=aa hq1; clear hb1 hq1 hk1)
  | (go_at_call 52; refine (HT_name.out _).mono ?_; rintro e w2 ⟨hb2,cs2,rfl,ht2⟩; obtain ⟨a20,a21,a22,a23,a2A,a2n,a2c,rfl⟩:=ak ht2; have HB2:=aa hb2; have HT2:=aa (aw ht2); clear hb2 ht2)
  | (go_at_call 18; refine (bD _ _ _ _).mono ?_; rintro e w3 ⟨rfl,hb3⟩; have HB3:=aa hb3; clear hb3)
  | fail)
 have h13:=HB2.out.trans (HB3.out.mono HB2.out.size)
 have h0:=HBX.out.trans ((HB1.out.trans (h13.mono HB1.out.size)).mono HBX.out.size)
 have HP:=aa (dJ (w:=w) (w8:=w3) (n:=2) (ts:=M.modT) [[.int .i64 a20,.bool a21,.int .i64 a22,.string a23,.slice a2A a2n a2c],[.int .i64 0,.bool true,.int .i64 16,.string ⟨#[]⟩,.slice q1.A q1.n q1.c]] #[.int .i64 a20,.bool a21,.int .i64 a22,.string a23,.slice a2A a2n a2c,.int .i64 0,.bool true,.int .i64 16,.string ⟨#[]⟩,.slice q1.A q1.n q1.c] h0 rfl
  (by
   exact ⟨⟨rfl,HT2.out _ _⟩,⟨rfl,TlAt.up (bX 0 16 true ⟨#[]⟩ HQ1.out rfl rfl (Nat.zero_le _)) h13 HBX.out.size⟩,trivial⟩) rfl (by omega))
 clear h13 h0
 go_wp2_with fail
 go_ret
 exact HP.out
theorem en {w8 : World} {B n : Nat} {ts : List Tl} (css : List (List Value)) (cells : Array Value) (hB : B <= w8.heap.size) (hc : cells.toList = css.flatten) (hA : All2 LeafC ts css) (hn : n = ts.length) (hm : n <= 100) :
  TGrow (w8.alloc (.cells cells 42)) B (.slice (some ⟨w8.heap.size,0,none⟩) n n) ts:=by
 subst hn
 have hk : ∀ c ∈ css,c.length = 5:=fun c hx => hA.right (P:=fun c => c.length = 5) (fun _ _ h => h.1) c hx
 refine GRow.leaves (css:=css) ?_ hA.len.symm hk (fun i t c hi hx => (hA.get i t c hi hx).2)
 have h:=World.ownsRow_lit (base:=B) (e:=42) (size:=5) w8 cells ts.length hB (by unfold maxLen; omega) (by rw [<- Array.length_toList,hc,cz css hk,<- hA.len])
 rw [hc] at h
 exact h
theorem of_dest_row (q : Rw) (ss : List ByteArray) (S : Nat -> Prop) (w : World) (h : SRow w S q ss) (hn : ss.length <= 1000000) :
  Calls Tryz.prog 82 #[.slice q.A q.n q.c,.func (.func 83) #[] #[]] w (aN (ss.map (town 0)) w):=by
 have:=of_dest q.A q.c ss (town 0) w (cX h) hn (fun s hs W => parts3_t s W (eh h s hs))
 rw [<- h.1] at this
 exact this
theorem dW {w w' : World} {A : Option Addr} {n c : Nat} {ts : List Tl} (hb : Below w.heap.size w w') (h : TGrow w' w.heap.size (.slice A n c) ts) : aN ts w (.returned (.slice A n c)) w':=by
 obtain ⟨q,e,hq⟩:=GRow.row au h
 exact ⟨hb,q,by rw [e],hq⟩
theorem partsw_12 (M : Ms) (m : MC) (S : Nat -> Prop) (w : World) (h : MsAt w S M m) (hop : M.op = 12) (hl : M.dest.length <= 1000000) :
  Calls Tryz.prog 51 #[.agg m.cells] w (aN M.renT w):=by
 obtain ⟨i0,hi,iz0,iz1,iz2⟩:=info_parts aR
 obtain ⟨f,at',li,mo,de,co,hm,⟨hz_name,hz_secret,hz_kind,hz_value,hz_text,hz_rdn⟩,hfl,hat,hli,hmo,hde,hco⟩:=h
 obtain ⟨cs,hcs⟩ : ∃ cs,cs = m.cells:=⟨_,rfl⟩
 have c3 : cs[3]? = some (.string M.name):=by rw [hcs,hm]; rfl
 have c26 : cs[26]? = some (.string M.rdn):=by rw [hcs,hm]; rfl
 have c27 : cs[27]? = some (.bool M.old):=by rw [hcs,hm]; rfl
 have c28 : cs[28]? = some (.slice de.A de.n de.c):=by rw [hcs,hm]; rfl
 have c1 : cs[1]? = some (.int .i64 12):=by rw [hcs,hm,<- hop]; rfl
 have HSZ : Hid (cs.size = 31):=by rw [hcs]; rfl
 have HCS:=aa hcs
 rw [<- hcs]
 obtain ⟨wc,hwc⟩ : ∃ W,W = w.alloc (.cells cs 30):=⟨_,rfl⟩
 have hbx : Below w.heap.size w wc:=by rw [hwc]; exact (Below.refl w.heap.size w).alloc (Nat.le_refl _) _
 have hkx : Bk wc w.heap.size 30 cs:=by rw [hwc]; exact Bk.new w _ cs
 have HBX:=aa hbx
 have HKX:=aa hkx
 have HZ_name:=aa hz_name
 have HZ_secret:=aa hz_secret
 have HZ_kind:=aa hz_kind
 have HZ_value:=aa hz_value
 have HZ_text:=aa hz_text
 have HZ_rdn:=aa hz_rdn
 have C3:=aa c3
 have C26:=aa c26
 have C27:=aa c27
 have C28:=aa c28
 have C1:=aa c1
 have HT_name:=aa fun (W : World) => aX M.name W HZ_name.out
 have HT_rdn:=aa fun (W : World) => aX M.rdn W HZ_rdn.out
 have HB_old:=aa fun (W : World) => bool_t M.old W
 have hkp:=fun (W : World) (hb : Below wc.heap.size wc W) => hbx.trans (hb.mono hbx.size)
 have HOF:=aa fun (W : World) (hb : Below wc.heap.size wc W) => of_dest_row de M.dest S W (RowOf.keep al hde (T:=S) (hkp W hb).size (fun x _ hlt => (hkp W hb).block x hlt) (fun _ h _ => h)) hl
 clear hkp
 have HL:=aa hl
 have p1 : (w.alloc (.cells cs 30)).cell? ⟨w.heap.size,1,none⟩ = some (.int .i64 12):=by rw [<- hwc]; exact (hkx.cell 1).trans c1
 have HBR:=aa (Below.refl wc.heap.size wc).drew
 have HKS:=aa fun (W : World) (hb : Below wc.heap.size wc W) => (show W.cell? ⟨w.heap.size,3,none⟩ = some (.string M.name) /\ W.cell? ⟨w.heap.size,26,none⟩ = some (.string M.rdn) /\ W.cell? ⟨w.heap.size,27,none⟩ = some (.bool M.old) /\ W.cell? ⟨w.heap.size,28,none⟩ = some (.slice de.A de.n de.c) /\ Below wc.heap.size wc W from
  ⟨((af hkx hb).cell 3).trans C3.out,((af hkx hb).cell 26).trans C26.out,((af hkx hb).cell 27).trans C27.out,((af hkx hb).cell 28).trans C28.out,hb⟩)
 have HWC:=aa hwc
 clear hwc hbx hkx hcs hm hfl hat hli hmo hde hco c1 hz_name hz_secret hz_kind hz_value hz_text hz_rdn c3 c26 c27 c28 hl hop
 go_enter Tryz.func51,Tryz.ntmps51
 go_wp2_with fail
 rw [<- HWC.out]
 go_region_held3 (fun W => W.cell? ⟨w.heap.size,3,none⟩ = some (.string M.name) /\ W.cell? ⟨w.heap.size,26,none⟩ = some (.string M.rdn) /\ W.cell? ⟨w.heap.size,27,none⟩ = some (.bool M.old) /\ W.cell? ⟨w.heap.size,28,none⟩ = some (.slice de.A de.n de.c) /\ Below wc.heap.size wc W)
  (first | (with_reducible exact HKS.out _ HBR.out) | (with_reducible exact HKS.out _ (by assumption)) | (with_reducible exact HKS.out _ (bel1 (by assumption) _)))
  (first
   | (go_at_call 52; (with_reducible refine (HT_name.out _).mono ?_); rintro e w1 ⟨hb1,cs1,rfl,ht1⟩; obtain ⟨a10,a11,a12,a13,a1A,a1n,a1c,rfl⟩:=ak ht1; have hn1:=ag HBR.out hb1)
   | (go_at_call 52; (with_reducible refine (HT_rdn.out _).mono ?_); rintro e w2 ⟨hb2,cs2,rfl,ht2⟩; obtain ⟨a20,a21,a22,a23,a2A,a2n,a2c,rfl⟩:=ak ht2; have hn2:=ag hn1 hb2)
   | (go_at_call 53; (with_reducible refine (HB_old.out _).mono ?_); rintro e w3 ⟨hb3,cs3,rfl,ht3⟩; obtain ⟨a30,a31,a32,a33,a3A,a3n,a3c,rfl⟩:=ak ht3; have hn3:=ag hn2 hb3)
   | fail)
 all_goals
  have hW8:=bel1 hn3 (.cells #[.int .i64 a10,.bool a11,.int .i64 a12,.string a13,.slice a1A a1n a1c,.int .i64 a20,.bool a21,.int .i64 a22,.string a23,.slice a2A a2n a2c,.int .i64 a30,.bool a31,.int .i64 a32,.string a33,.slice a3A a3n a3c] 42)
  have HW8:=aa hW8
  have hB8:=(HBX.out.trans (hn3.mono HBX.out.size)).size
  have hk8:=af HKX.out hW8
  have p28 : (w3.alloc (.cells #[.int .i64 a10,.bool a11,.int .i64 a12,.string a13,.slice a1A a1n a1c,.int .i64 a20,.bool a21,.int .i64 a22,.string a23,.slice a2A a2n a2c,.int .i64 a30,.bool a31,.int .i64 a32,.string a33,.slice a3A a3n a3c] 42)).cell? ⟨w.heap.size,28,none⟩ = some (.slice de.A de.n de.c):=(hk8.cell 28).trans C28.out
  have hl8 : w.heap.size < w3.heap.size:=(af HKX.out hn3).lt
  have HG:=aa (en (B:=w.heap.size) (w8:=w3) (n:=3) (ts:=[tstr M.name,tstr M.rdn,bx M.old]) [[.int .i64 a10,.bool a11,.int .i64 a12,.string a13,.slice a1A a1n a1c],[.int .i64 a20,.bool a21,.int .i64 a22,.string a23,.slice a2A a2n a2c],[.int .i64 a30,.bool a31,.int .i64 a32,.string a33,.slice a3A a3n a3c]] #[.int .i64 a10,.bool a11,.int .i64 a12,.string a13,.slice a1A a1n a1c,.int .i64 a20,.bool a21,.int .i64 a22,.string a23,.slice a2A a2n a2c,.int .i64 a30,.bool a31,.int .i64 a32,.string a33,.slice a3A a3n a3c] hB8 rfl ⟨⟨rfl,aw ht1⟩,⟨rfl,aw ht2⟩,⟨rfl,aw ht3⟩,trivial⟩ rfl (by omega))
  clear hk8 hn1 hn2 hn3 hb1 hb2 hb3 ht1 ht2 ht3
  go_wp2_with (first
   | (go_at_call 82; refine (HOF.out _ hW8).mono ?_; rintro e w4 ⟨hb4,q4,rfl,hq4⟩; have hs4:=hb4.size; have HB4:=aa hb4; have HQ4:=aa hq4; clear hb4 hq4)
   | (at_builtin; refine ba rfl (.tmp 51) (.tmp 54) rfl rfl w.heap.size (.slice (some ⟨w3.heap.size,0,none⟩) 3 3) _ rfl (GRow.below au HG.out HB4.out) q4 _ rfl (RowOf.keep au HQ4.out (Nat.le_refl _) (fun _ _ _ => rfl) (fun x hx hlt => ⟨by have hx : (w3.alloc _).heap.size <= x:=hx; simp at hx; omega,fun e => by have h1:=(GRow.lt HG.out x e).2; have hx : (w3.alloc _).heap.size <= x:=hx; omega⟩)) (by have:=HL.out; simp only [List.length_map,List.length_cons,List.length_nil]; omega) (by simp at hs4; omega) ?_; intro A7 n7 c7 w7 hG7 hgr7; have hb7:=(HBX.out.trans ((HW8.out.trans (HB4.out.mono HW8.out.size)).mono HBX.out.size)).grown hgr7 (by simp at hs4; omega) (fun x hx => (GRow.lt HG.out x hx).1); have HP:=aa (dW hb7 hG7); clear hG7 hgr7 hb7)
   | fail)
  go_ret
  exact HP.out
theorem partsw_23_false (M : Ms) (m : MC) (S : Nat -> Prop) (w : World) (h : MsAt w S M m) (hop : M.op = 23) (hhas : M.has = false) :
  Calls Tryz.prog 51 #[.agg m.cells] w (aN M.extT w):=by
 obtain ⟨i0,hi,iz0,iz1,iz2⟩:=info_parts aR
 obtain ⟨f,at',li,mo,de,co,hm,⟨hz_name,hz_secret,hz_kind,hz_value,hz_text,hz_rdn⟩,hfl,hat,hli,hmo,hde,hco⟩:=h
 obtain ⟨cs,hcs⟩ : ∃ cs,cs = m.cells:=⟨_,rfl⟩
 have c6 : cs[6]? = some (.string M.kind):=by rw [hcs,hm]; rfl
 have c7 : cs[7]? = some (.bool M.has):=by rw [hcs,hm]; rfl
 have c8 : cs[8]? = some (.string M.value):=by rw [hcs,hm]; rfl
 have c1 : cs[1]? = some (.int .i64 23):=by rw [hcs,hm,<- hop]; rfl
 have HSZ : Hid (cs.size = 31):=by rw [hcs]; rfl
 have HCS:=aa hcs
 rw [<- hcs]
 obtain ⟨wc,hwc⟩ : ∃ W,W = w.alloc (.cells cs 30):=⟨_,rfl⟩
 have hbx : Below w.heap.size w wc:=by rw [hwc]; exact (Below.refl w.heap.size w).alloc (Nat.le_refl _) _
 have hkx : Bk wc w.heap.size 30 cs:=by rw [hwc]; exact Bk.new w _ cs
 have HBX:=aa hbx
 have HKX:=aa hkx
 have HZ_name:=aa hz_name
 have HZ_secret:=aa hz_secret
 have HZ_kind:=aa hz_kind
 have HZ_value:=aa hz_value
 have HZ_text:=aa hz_text
 have HZ_rdn:=aa hz_rdn
 have C6:=aa c6
 have C7:=aa c7
 have C8:=aa c8
 have C1:=aa c1
 have HO_kind:=aa fun (W : World) => ee 0 M.kind W rfl HZ_kind.out
 have HO_value:=aa fun (W : World) => ee 1 M.value W rfl HZ_value.out
 have p6 : (w.alloc (.cells cs 30)).cell? ⟨w.heap.size,6,none⟩ = some (.string M.kind):=by rw [<- hwc]; exact (hkx.cell 6).trans c6
 have HHAS:=aa hhas
 have p1 : (w.alloc (.cells cs 30)).cell? ⟨w.heap.size,1,none⟩ = some (.int .i64 23):=by rw [<- hwc]; exact (hkx.cell 1).trans c1
 have HBR:=aa (Below.refl wc.heap.size wc).drew
 have HKS:=aa fun (W : World) (hb : Below wc.heap.size wc W) => (show W.cell? ⟨w.heap.size,6,none⟩ = some (.string M.kind) /\ W.cell? ⟨w.heap.size,7,none⟩ = some (.bool M.has) /\ W.cell? ⟨w.heap.size,8,none⟩ = some (.string M.value) /\ Below wc.heap.size wc W from
  ⟨((af hkx hb).cell 6).trans C6.out,((af hkx hb).cell 7).trans C7.out,((af hkx hb).cell 8).trans C8.out,hb⟩)
 have HWC:=aa hwc
 clear hwc hbx hkx hcs hm hfl hat hli hmo hde hco c1 hz_name hz_secret hz_kind hz_value hz_text hz_rdn c6 c7 c8 hhas hop
 go_enter Tryz.func51,Tryz.ntmps51
 go_wp2_with (first
  | (go_at_call 84; rw [<- HWC.out]; (with_reducible refine (HO_kind.out _).mono ?_); rintro e w1 ⟨hb1,cs1,rfl,ht1⟩; obtain ⟨a10,a11,a12,a13,a1A,a1n,a1c,rfl⟩:=ak ht1; have hW8:=bel1 hb1 (.cells #[.int .i64 a10,.bool a11,.int .i64 a12,.string a13,.slice a1A a1n a1c] 42); have HW8:=aa hW8; have hk8:=af HKX.out hW8; have p7 : (w1.alloc (.cells #[.int .i64 a10,.bool a11,.int .i64 a12,.string a13,.slice a1A a1n a1c] 42)).cell? ⟨w.heap.size,7,none⟩ = some (.bool false):=(hk8.cell 7).trans (by rw [C7.out,HHAS.out]); have p8 : (w1.alloc (.cells #[.int .i64 a10,.bool a11,.int .i64 a12,.string a13,.slice a1A a1n a1c] 42)).cell? ⟨w.heap.size,8,none⟩ = some (.string M.value):=(hk8.cell 8).trans C8.out; have hl8 : w.heap.size < w1.heap.size:=(af HKX.out hb1).lt; have HG:=aa (en (B:=w.heap.size) (w8:=w1) (n:=1) (ts:=[town 0 M.kind]) [[.int .i64 a10,.bool a11,.int .i64 a12,.string a13,.slice a1A a1n a1c]] #[.int .i64 a10,.bool a11,.int .i64 a12,.string a13,.slice a1A a1n a1c] (by omega) rfl ⟨⟨rfl,aw ht1⟩,trivial⟩ rfl (by omega)); clear hk8 hb1 ht1)
  | fail)
 go_ret
 exact dW (HBX.out.trans (HW8.out.mono HBX.out.size)) (by unfold Ms.extT; rw [HHAS.out]; exact HG.out)
theorem partsw_23_true (M : Ms) (m : MC) (S : Nat -> Prop) (w : World) (h : MsAt w S M m) (hop : M.op = 23) (hhas : M.has = true) :
  Calls Tryz.prog 51 #[.agg m.cells] w (aN M.extT w):=by
 obtain ⟨i0,hi,iz0,iz1,iz2⟩:=info_parts aR
 obtain ⟨f,at',li,mo,de,co,hm,⟨hz_name,hz_secret,hz_kind,hz_value,hz_text,hz_rdn⟩,hfl,hat,hli,hmo,hde,hco⟩:=h
 obtain ⟨cs,hcs⟩ : ∃ cs,cs = m.cells:=⟨_,rfl⟩
 have c6 : cs[6]? = some (.string M.kind):=by rw [hcs,hm]; rfl
 have c7 : cs[7]? = some (.bool M.has):=by rw [hcs,hm]; rfl
 have c8 : cs[8]? = some (.string M.value):=by rw [hcs,hm]; rfl
 have c1 : cs[1]? = some (.int .i64 23):=by rw [hcs,hm,<- hop]; rfl
 have HSZ : Hid (cs.size = 31):=by rw [hcs]; rfl
 have HCS:=aa hcs
 rw [<- hcs]
 obtain ⟨wc,hwc⟩ : ∃ W,W = w.alloc (.cells cs 30):=⟨_,rfl⟩
 have hbx : Below w.heap.size w wc:=by rw [hwc]; exact (Below.refl w.heap.size w).alloc (Nat.le_refl _) _
 have hkx : Bk wc w.heap.size 30 cs:=by rw [hwc]; exact Bk.new w _ cs
 have HBX:=aa hbx
 have HKX:=aa hkx
 have HZ_name:=aa hz_name
 have HZ_secret:=aa hz_secret
 have HZ_kind:=aa hz_kind
 have HZ_value:=aa hz_value
 have HZ_text:=aa hz_text
 have HZ_rdn:=aa hz_rdn
 have C6:=aa c6
 have C7:=aa c7
 have C8:=aa c8
 have C1:=aa c1
 have HO_kind:=aa fun (W : World) => ee 0 M.kind W rfl HZ_kind.out
 have HO_value:=aa fun (W : World) => ee 1 M.value W rfl HZ_value.out
 have p6 : (w.alloc (.cells cs 30)).cell? ⟨w.heap.size,6,none⟩ = some (.string M.kind):=by rw [<- hwc]; exact (hkx.cell 6).trans c6
 have HHAS:=aa hhas
 have p1 : (w.alloc (.cells cs 30)).cell? ⟨w.heap.size,1,none⟩ = some (.int .i64 23):=by rw [<- hwc]; exact (hkx.cell 1).trans c1
 have HBR:=aa (Below.refl wc.heap.size wc).drew
 have HKS:=aa fun (W : World) (hb : Below wc.heap.size wc W) => (show W.cell? ⟨w.heap.size,6,none⟩ = some (.string M.kind) /\ W.cell? ⟨w.heap.size,7,none⟩ = some (.bool M.has) /\ W.cell? ⟨w.heap.size,8,none⟩ = some (.string M.value) /\ Below wc.heap.size wc W from
  ⟨((af hkx hb).cell 6).trans C6.out,((af hkx hb).cell 7).trans C7.out,((af hkx hb).cell 8).trans C8.out,hb⟩)
 have HWC:=aa hwc
 clear hwc hbx hkx hcs hm hfl hat hli hmo hde hco c1 hz_name hz_secret hz_kind hz_value hz_text hz_rdn c6 c7 c8 hhas hop
 go_enter Tryz.func51,Tryz.ntmps51
 go_wp2_with (first
  | (go_at_call 84; rw [<- HWC.out]; (with_reducible refine (HO_kind.out _).mono ?_); rintro e w1 ⟨hb1,cs1,rfl,ht1⟩; obtain ⟨a10,a11,a12,a13,a1A,a1n,a1c,rfl⟩:=ak ht1; have hW8:=bel1 hb1 (.cells #[.int .i64 a10,.bool a11,.int .i64 a12,.string a13,.slice a1A a1n a1c] 42); have HW8:=aa hW8; have hk8:=af HKX.out hW8; have p7 : (w1.alloc (.cells #[.int .i64 a10,.bool a11,.int .i64 a12,.string a13,.slice a1A a1n a1c] 42)).cell? ⟨w.heap.size,7,none⟩ = some (.bool true):=(hk8.cell 7).trans (by rw [C7.out,HHAS.out]); have p8 : (w1.alloc (.cells #[.int .i64 a10,.bool a11,.int .i64 a12,.string a13,.slice a1A a1n a1c] 42)).cell? ⟨w.heap.size,8,none⟩ = some (.string M.value):=(hk8.cell 8).trans C8.out; have hl8 : w.heap.size < w1.heap.size:=(af HKX.out hb1).lt; have HG:=aa (en (B:=w.heap.size) (w8:=w1) (n:=1) (ts:=[town 0 M.kind]) [[.int .i64 a10,.bool a11,.int .i64 a12,.string a13,.slice a1A a1n a1c]] #[.int .i64 a10,.bool a11,.int .i64 a12,.string a13,.slice a1A a1n a1c] (by omega) rfl ⟨⟨rfl,aw ht1⟩,trivial⟩ rfl (by omega)); clear hk8 hb1 ht1)
  | (go_at_call 84; (with_reducible refine (HO_value.out _).mono ?_); rintro e w2 ⟨hb2,cs2,rfl,ht2⟩; obtain ⟨a20,a21,a22,a23,a2A,a2n,a2c,rfl⟩:=ak ht2; have hs2:=hb2.size; have HB2:=aa hb2; have HT2:=aa (aw ht2); clear hb2 ht2)
  | (at_builtin; refine ba rfl (.tmp 78) (.tmp 82) rfl rfl w.heap.size (.slice (some ⟨w1.heap.size,0,none⟩) 1 1) _ rfl (GRow.below au (GRow.below au HG.out HB2.out) ((Below.refl _ _).alloc (Nat.le_refl _) _)) ⟨some ⟨w2.heap.size,0,none⟩,1,1⟩ [town 1 M.value] rfl (one_row (Bk.new w2 _ _) ⟨by simp at hs2; omega,fun e => by have:=(GRow.lt HG.out _ e).2; omega⟩ (HT2.out _ _)) (by simp) (by simp at hs2 |-; omega) ?_; intro A7 n7 c7 w7 hG7 hgr7; have hb7:=((HBX.out.trans ((HW8.out.trans (HB2.out.mono HW8.out.size)).mono HBX.out.size)).alloc (by simp at hs2; omega) _).grown hgr7 (by simp at hs2 |-; omega) (fun x hx => (GRow.lt HG.out x hx).1); have HP:=aa (show aN M.extT w _ _ from dW hb7 (by unfold Ms.extT; rw [HHAS.out]; exact hG7)); clear hG7 hgr7 hb7)
  | fail)
 go_ret
 exact HP.out
theorem partsw_ans_no (M : Ms) (m : MC) (S : Nat -> Prop) (w : World) (h : MsAt w S M m) (hne_0 : M.op ≠ 0) (hne_3 : M.op ≠ 3) (hne_4 : M.op ≠ 4) (hne_8 : M.op ≠ 8) (hne_6 : M.op ≠ 6) (hne_12 : M.op ≠ 12) (hne_14 : M.op ≠ 14) (hne_23 : M.op ≠ 23) (h_code : in64 M.code) (hcond : (M.op == 24 && aj M.kind) = false) :
  Calls Tryz.prog 51 #[.agg m.cells] w (aN M.ansT w):=by
 obtain ⟨i0,hi,iz0,iz1,iz2⟩:=info_parts aR
 obtain ⟨f,at',li,mo,de,co,hm,⟨hz_name,hz_secret,hz_kind,hz_value,hz_text,hz_rdn⟩,hfl,hat,hli,hmo,hde,hco⟩:=h
 obtain ⟨cs,hcs⟩ : ∃ cs,cs = m.cells:=⟨_,rfl⟩
 have c9 : cs[9]? = some (.int .i64 M.code):=by rw [hcs,hm]; rfl
 have c3 : cs[3]? = some (.string M.name):=by rw [hcs,hm]; rfl
 have c10 : cs[10]? = some (.string M.text):=by rw [hcs,hm]; rfl
 have c6 : cs[6]? = some (.string M.kind):=by rw [hcs,hm]; rfl
 have c1 : cs[1]? = some (.int .i64 M.op):=by rw [hcs,hm]; rfl
 have HSZ : Hid (cs.size = 31):=by rw [hcs]; rfl
 have HCS:=aa hcs
 rw [<- hcs]
 obtain ⟨wc,hwc⟩ : ∃ W,W = w.alloc (.cells cs 30):=⟨_,rfl⟩
 have hbx : Below w.heap.size w wc:=by rw [hwc]; exact (Below.refl w.heap.size w).alloc (Nat.le_refl _) _
 have hkx : Bk wc w.heap.size 30 cs:=by rw [hwc]; exact Bk.new w _ cs
 have HBX:=aa hbx
 have HKX:=aa hkx
 have HZ_name:=aa hz_name
 have HZ_secret:=aa hz_secret
 have HZ_kind:=aa hz_kind
 have HZ_value:=aa hz_value
 have HZ_text:=aa hz_text
 have HZ_rdn:=aa hz_rdn
 have C9:=aa c9
 have C3:=aa c3
 have C10:=aa c10
 have C6:=aa c6
 have C1:=aa c1
 have HN_code:=aa fun (W : World) => eO 10 M.code rfl W h_code.1 h_code.2
 have HT_name:=aa fun (W : World) => aX M.name W HZ_name.out
 have HT_text:=aa fun (W : World) => aX M.text W HZ_text.out
 have z0 : (M.op == 0) = false:=by simp; exact hne_0
 have z3 : (M.op == 3) = false:=by simp; exact hne_3
 have z4 : (M.op == 4) = false:=by simp; exact hne_4
 have z8 : (M.op == 8) = false:=by simp; exact hne_8
 have z6 : (M.op == 6) = false:=by simp; exact hne_6
 have z12 : (M.op == 12) = false:=by simp; exact hne_12
 have z14 : (M.op == 14) = false:=by simp; exact hne_14
 have z23 : (M.op == 23) = false:=by simp; exact hne_23
 have p1 : (w.alloc (.cells cs 30)).cell? ⟨w.heap.size,1,none⟩ = some (.int .i64 M.op):=by rw [<- hwc]; exact (hkx.cell 1).trans c1
 have HBR:=aa (Below.refl wc.heap.size wc).drew
 have HKS:=aa fun (W : World) (hb : Below wc.heap.size wc W) => (show W.cell? ⟨w.heap.size,9,none⟩ = some (.int .i64 M.code) /\ W.cell? ⟨w.heap.size,3,none⟩ = some (.string M.name) /\ W.cell? ⟨w.heap.size,10,none⟩ = some (.string M.text) /\ W.cell? ⟨w.heap.size,6,none⟩ = some (.string M.kind) /\ Below wc.heap.size wc W from
  ⟨((af hkx hb).cell 9).trans C9.out,((af hkx hb).cell 3).trans C3.out,((af hkx hb).cell 10).trans C10.out,((af hkx hb).cell 6).trans C6.out,hb⟩)
 have HWC:=aa hwc
 clear hwc hbx hkx hcs hm hfl hat hli hmo hde hco c1 hz_name hz_secret hz_kind hz_value hz_text hz_rdn c9 c3 c10 c6 h_code hne_0 hne_3 hne_4 hne_8 hne_6 hne_12 hne_14 hne_23
 go_enter Tryz.func51,Tryz.ntmps51
 go_wp2_with fail
 rw [<- HWC.out]
 go_region_held3 (fun W => W.cell? ⟨w.heap.size,9,none⟩ = some (.int .i64 M.code) /\ W.cell? ⟨w.heap.size,3,none⟩ = some (.string M.name) /\ W.cell? ⟨w.heap.size,10,none⟩ = some (.string M.text) /\ W.cell? ⟨w.heap.size,6,none⟩ = some (.string M.kind) /\ Below wc.heap.size wc W)
  (first | (with_reducible exact HKS.out _ HBR.out) | (with_reducible exact HKS.out _ (by assumption)) | (with_reducible exact HKS.out _ (bel1 (by assumption) _)))
  (first
   | (go_at_call 19; (with_reducible refine (HN_code.out _).mono ?_); rintro e w1 ⟨hb1,cs1,rfl,ht1⟩; obtain ⟨a10,a11,a12,a13,a1A,a1n,a1c,rfl⟩:=ak ht1; have hn1:=ag HBR.out hb1)
   | (go_at_call 52; (with_reducible refine (HT_name.out _).mono ?_); rintro e w2 ⟨hb2,cs2,rfl,ht2⟩; obtain ⟨a20,a21,a22,a23,a2A,a2n,a2c,rfl⟩:=ak ht2; have hn2:=ag hn1 hb2)
   | (go_at_call 52; (with_reducible refine (HT_text.out _).mono ?_); rintro e w3 ⟨hb3,cs3,rfl,ht3⟩; obtain ⟨a30,a31,a32,a33,a3A,a3n,a3c,rfl⟩:=ak ht3; have hn3:=ag hn2 hb3)
   | fail)
 all_goals
  have hW8:=bel1 hn3 (.cells #[.int .i64 a10,.bool a11,.int .i64 a12,.string a13,.slice a1A a1n a1c,.int .i64 a20,.bool a21,.int .i64 a22,.string a23,.slice a2A a2n a2c,.int .i64 a30,.bool a31,.int .i64 a32,.string a33,.slice a3A a3n a3c] 42)
  have HW8:=aa hW8
  have hB8:=(HBX.out.trans (hn3.mono HBX.out.size)).size
  have hk8:=af HKX.out hW8
  have p1' : (w3.alloc (.cells #[.int .i64 a10,.bool a11,.int .i64 a12,.string a13,.slice a1A a1n a1c,.int .i64 a20,.bool a21,.int .i64 a22,.string a23,.slice a2A a2n a2c,.int .i64 a30,.bool a31,.int .i64 a32,.string a33,.slice a3A a3n a3c] 42)).cell? ⟨w.heap.size,1,none⟩ = some (.int .i64 M.op):=(hk8.cell 1).trans C1.out
  have p6' : (w3.alloc (.cells #[.int .i64 a10,.bool a11,.int .i64 a12,.string a13,.slice a1A a1n a1c,.int .i64 a20,.bool a21,.int .i64 a22,.string a23,.slice a2A a2n a2c,.int .i64 a30,.bool a31,.int .i64 a32,.string a33,.slice a3A a3n a3c] 42)).cell? ⟨w.heap.size,6,none⟩ = some (.string M.kind):=(hk8.cell 6).trans C6.out
  have hl8 : w.heap.size < w3.heap.size:=(af HKX.out hn3).lt
  have HG:=aa (en (B:=w.heap.size) (w8:=w3) (n:=3) (ts:=[tnum 10 M.code,tstr M.name,tstr M.text]) [[.int .i64 a10,.bool a11,.int .i64 a12,.string a13,.slice a1A a1n a1c],[.int .i64 a20,.bool a21,.int .i64 a22,.string a23,.slice a2A a2n a2c],[.int .i64 a30,.bool a31,.int .i64 a32,.string a33,.slice a3A a3n a3c]] #[.int .i64 a10,.bool a11,.int .i64 a12,.string a13,.slice a1A a1n a1c,.int .i64 a20,.bool a21,.int .i64 a22,.string a23,.slice a2A a2n a2c,.int .i64 a30,.bool a31,.int .i64 a32,.string a33,.slice a3A a3n a3c] hB8 rfl ⟨⟨rfl,aw ht1⟩,⟨rfl,aw ht2⟩,⟨rfl,aw ht3⟩,trivial⟩ rfl (by omega))
  clear hk8 hn1 hn2 hn3 hb1 hb2 hb3 ht1 ht2 ht3
  have HP:=aa (show aN M.ansT w _ _ from dW (HBX.out.trans (HW8.out.mono HBX.out.size)) (by unfold Ms.ansT; rw [hcond]; simpa using HG.out))
  by_cases h24 : M.op = 24
  ·have y1 : (M.op == 24) = true:=by simpa using h24
   have y2 : M.kind.toList.isEmpty = true:=by rw [y1] at hcond; exact (aE (by simpa using hcond)).1
   clear hcond h24
   go_wp2_with fail
   go_ret
   exact HP.out
  ·have y1 : (M.op == 24) = false:=by simpa using h24
   clear hcond h24
   go_wp2_with fail
   go_ret
   exact HP.out
theorem partsw_ans_yes (M : Ms) (m : MC) (S : Nat -> Prop) (w : World) (h : MsAt w S M m) (hne_0 : M.op ≠ 0) (hne_3 : M.op ≠ 3) (hne_4 : M.op ≠ 4) (hne_8 : M.op ≠ 8) (hne_6 : M.op ≠ 6) (hne_12 : M.op ≠ 12) (hne_14 : M.op ≠ 14) (hne_23 : M.op ≠ 23) (h_code : in64 M.code) (hcond : M.op = 24 /\ aj M.kind = true) :
  Calls Tryz.prog 51 #[.agg m.cells] w (aN M.ansT w):=by
 obtain ⟨i0,hi,iz0,iz1,iz2⟩:=info_parts aR
 obtain ⟨f,at',li,mo,de,co,hm,⟨hz_name,hz_secret,hz_kind,hz_value,hz_text,hz_rdn⟩,hfl,hat,hli,hmo,hde,hco⟩:=h
 obtain ⟨cs,hcs⟩ : ∃ cs,cs = m.cells:=⟨_,rfl⟩
 have c9 : cs[9]? = some (.int .i64 M.code):=by rw [hcs,hm]; rfl
 have c3 : cs[3]? = some (.string M.name):=by rw [hcs,hm]; rfl
 have c10 : cs[10]? = some (.string M.text):=by rw [hcs,hm]; rfl
 have c6 : cs[6]? = some (.string M.kind):=by rw [hcs,hm]; rfl
 have c1 : cs[1]? = some (.int .i64 M.op):=by rw [hcs,hm]; rfl
 have HSZ : Hid (cs.size = 31):=by rw [hcs]; rfl
 have HCS:=aa hcs
 rw [<- hcs]
 obtain ⟨wc,hwc⟩ : ∃ W,W = w.alloc (.cells cs 30):=⟨_,rfl⟩
 have hbx : Below w.heap.size w wc:=by rw [hwc]; exact (Below.refl w.heap.size w).alloc (Nat.le_refl _) _
 have hkx : Bk wc w.heap.size 30 cs:=by rw [hwc]; exact Bk.new w _ cs
 have HBX:=aa hbx
 have HKX:=aa hkx
 have HZ_name:=aa hz_name
 have HZ_secret:=aa hz_secret
 have HZ_kind:=aa hz_kind
 have HZ_value:=aa hz_value
 have HZ_text:=aa hz_text
 have HZ_rdn:=aa hz_rdn
 have C9:=aa c9
 have C3:=aa c3
 have C10:=aa c10
 have C6:=aa c6
 have C1:=aa c1
 have HN_code:=aa fun (W : World) => eO 10 M.code rfl W h_code.1 h_code.2
 have HT_name:=aa fun (W : World) => aX M.name W HZ_name.out
 have HT_text:=aa fun (W : World) => aX M.text W HZ_text.out
 have HO_kind:=aa fun (W : World) => ee 10 M.kind W rfl HZ_kind.out
 have z0 : (M.op == 0) = false:=by simp; exact hne_0
 have z3 : (M.op == 3) = false:=by simp; exact hne_3
 have z4 : (M.op == 4) = false:=by simp; exact hne_4
 have z8 : (M.op == 8) = false:=by simp; exact hne_8
 have z6 : (M.op == 6) = false:=by simp; exact hne_6
 have z12 : (M.op == 12) = false:=by simp; exact hne_12
 have z14 : (M.op == 14) = false:=by simp; exact hne_14
 have z23 : (M.op == 23) = false:=by simp; exact hne_23
 have p1 : (w.alloc (.cells cs 30)).cell? ⟨w.heap.size,1,none⟩ = some (.int .i64 M.op):=by rw [<- hwc]; exact (hkx.cell 1).trans c1
 have HBR:=aa (Below.refl wc.heap.size wc).drew
 have HKS:=aa fun (W : World) (hb : Below wc.heap.size wc W) => (show W.cell? ⟨w.heap.size,9,none⟩ = some (.int .i64 M.code) /\ W.cell? ⟨w.heap.size,3,none⟩ = some (.string M.name) /\ W.cell? ⟨w.heap.size,10,none⟩ = some (.string M.text) /\ W.cell? ⟨w.heap.size,6,none⟩ = some (.string M.kind) /\ Below wc.heap.size wc W from
  ⟨((af hkx hb).cell 9).trans C9.out,((af hkx hb).cell 3).trans C3.out,((af hkx hb).cell 10).trans C10.out,((af hkx hb).cell 6).trans C6.out,hb⟩)
 have HWC:=aa hwc
 clear hwc hbx hkx hcs hm hfl hat hli hmo hde hco c1 hz_name hz_secret hz_kind hz_value hz_text hz_rdn c9 c3 c10 c6 h_code hne_0 hne_3 hne_4 hne_8 hne_6 hne_12 hne_14 hne_23
 go_enter Tryz.func51,Tryz.ntmps51
 go_wp2_with fail
 rw [<- HWC.out]
 go_region_held3 (fun W => W.cell? ⟨w.heap.size,9,none⟩ = some (.int .i64 M.code) /\ W.cell? ⟨w.heap.size,3,none⟩ = some (.string M.name) /\ W.cell? ⟨w.heap.size,10,none⟩ = some (.string M.text) /\ W.cell? ⟨w.heap.size,6,none⟩ = some (.string M.kind) /\ Below wc.heap.size wc W)
  (first | (with_reducible exact HKS.out _ HBR.out) | (with_reducible exact HKS.out _ (by assumption)) | (with_reducible exact HKS.out _ (bel1 (by assumption) _)))
  (first
   | (go_at_call 19; (with_reducible refine (HN_code.out _).mono ?_); rintro e w1 ⟨hb1,cs1,rfl,ht1⟩; obtain ⟨a10,a11,a12,a13,a1A,a1n,a1c,rfl⟩:=ak ht1; have hn1:=ag HBR.out hb1)
   | (go_at_call 52; (with_reducible refine (HT_name.out _).mono ?_); rintro e w2 ⟨hb2,cs2,rfl,ht2⟩; obtain ⟨a20,a21,a22,a23,a2A,a2n,a2c,rfl⟩:=ak ht2; have hn2:=ag hn1 hb2)
   | (go_at_call 52; (with_reducible refine (HT_text.out _).mono ?_); rintro e w3 ⟨hb3,cs3,rfl,ht3⟩; obtain ⟨a30,a31,a32,a33,a3A,a3n,a3c,rfl⟩:=ak ht3; have hn3:=ag hn2 hb3)
   | fail)
 all_goals
  have hW8:=bel1 hn3 (.cells #[.int .i64 a10,.bool a11,.int .i64 a12,.string a13,.slice a1A a1n a1c,.int .i64 a20,.bool a21,.int .i64 a22,.string a23,.slice a2A a2n a2c,.int .i64 a30,.bool a31,.int .i64 a32,.string a33,.slice a3A a3n a3c] 42)
  have HW8:=aa hW8
  have hB8:=(HBX.out.trans (hn3.mono HBX.out.size)).size
  have hk8:=af HKX.out hW8
  have p1' : (w3.alloc (.cells #[.int .i64 a10,.bool a11,.int .i64 a12,.string a13,.slice a1A a1n a1c,.int .i64 a20,.bool a21,.int .i64 a22,.string a23,.slice a2A a2n a2c,.int .i64 a30,.bool a31,.int .i64 a32,.string a33,.slice a3A a3n a3c] 42)).cell? ⟨w.heap.size,1,none⟩ = some (.int .i64 M.op):=(hk8.cell 1).trans C1.out
  have p6' : (w3.alloc (.cells #[.int .i64 a10,.bool a11,.int .i64 a12,.string a13,.slice a1A a1n a1c,.int .i64 a20,.bool a21,.int .i64 a22,.string a23,.slice a2A a2n a2c,.int .i64 a30,.bool a31,.int .i64 a32,.string a33,.slice a3A a3n a3c] 42)).cell? ⟨w.heap.size,6,none⟩ = some (.string M.kind):=(hk8.cell 6).trans C6.out
  have hl8 : w.heap.size < w3.heap.size:=(af HKX.out hn3).lt
  have HG:=aa (en (B:=w.heap.size) (w8:=w3) (n:=3) (ts:=[tnum 10 M.code,tstr M.name,tstr M.text]) [[.int .i64 a10,.bool a11,.int .i64 a12,.string a13,.slice a1A a1n a1c],[.int .i64 a20,.bool a21,.int .i64 a22,.string a23,.slice a2A a2n a2c],[.int .i64 a30,.bool a31,.int .i64 a32,.string a33,.slice a3A a3n a3c]] #[.int .i64 a10,.bool a11,.int .i64 a12,.string a13,.slice a1A a1n a1c,.int .i64 a20,.bool a21,.int .i64 a22,.string a23,.slice a2A a2n a2c,.int .i64 a30,.bool a31,.int .i64 a32,.string a33,.slice a3A a3n a3c] hB8 rfl ⟨⟨rfl,aw ht1⟩,⟨rfl,aw ht2⟩,⟨rfl,aw ht3⟩,trivial⟩ rfl (by omega))
  clear hk8 hn1 hn2 hn3 hb1 hb2 hb3 ht1 ht2 ht3
  have y1 : (M.op == 24) = true:=by simpa using hcond.1
  have y2 : M.kind.toList.isEmpty = false:=aU hcond.2
  have HAN:=aa (show M.ansT = [tnum 10 M.code,tstr M.name,tstr M.text] ++ [town 10 M.kind] by unfold Ms.ansT; rw [y1,hcond.2]; rfl)
  clear hcond
  go_wp2_with (first
   | (go_at_call 84; refine (HO_kind.out _).mono ?_; rintro e w4 ⟨hb4,cs4,rfl,ht4⟩; obtain ⟨a40,a41,a42,a43,a4A,a4n,a4c,rfl⟩:=ak ht4; have hs4:=hb4.size; have HB4:=aa hb4; have HT4:=aa (aw ht4); clear hb4 ht4)
   | (at_builtin; refine ba rfl (.tmp 103) (.tmp 107) rfl rfl w.heap.size (.slice (some ⟨w3.heap.size,0,none⟩) 3 3) _ rfl (GRow.below au (GRow.below au HG.out HB4.out) ((Below.refl _ _).alloc (Nat.le_refl _) _)) ⟨some ⟨w4.heap.size,0,none⟩,1,1⟩ [town 10 M.kind] rfl (one_row (Bk.new w4 _ _) ⟨by simp at hs4; omega,fun e => by have:=(GRow.lt HG.out _ e).2; omega⟩ (HT4.out _ _)) (by simp) (by simp at hs4 |-; omega) ?_; intro A7 n7 c7 w7 hG7 hgr7; have hb7:=((HBX.out.trans ((HW8.out.trans (HB4.out.mono HW8.out.size)).mono HBX.out.size)).alloc (by simp at hs4; omega) _).grown hgr7 (by simp at hs4 |-; omega) (fun x hx => (GRow.lt HG.out x hx).1); have HP:=aa (show aN M.ansT w _ _ from dW hb7 (by rw [HAN.out]; exact hG7)); clear hG7 hgr7 hb7)
   | fail)
  go_ret
  exact HP.out
theorem partsw_0 (M : Ms) (m : MC) (S : Nat -> Prop) (w : World) (h : MsAt w S M m) (hop : M.op = 0) (hv : in64 M.version) :
  Calls Tryz.prog 51 #[.agg m.cells] w (aN M.bindT w):=by
 have HS:=aa aT
 obtain ⟨f,at',li,mo,de,co,hm,⟨hz_name,hz_secret,hz_kind,hz_value,hz_text,hz_rdn⟩,hfl,hat,hli,hmo,hde,hco⟩:=id h
 obtain ⟨cs,hcs⟩ : ∃ cs,cs = m.cells:=⟨_,rfl⟩
 have c3 : cs[3]? = some (.string M.name):=by rw [hcs,hm]; rfl
 have c1 : cs[1]? = some (.int .i64 0):=by rw [hcs,hm,<- hop]; rfl
 have HSZ : Hid (cs.size = 31):=by rw [hcs]; rfl
 have HCS:=aa hcs
 rw [<- hcs]
 obtain ⟨wc,hwc⟩ : ∃ W,W = w.alloc (.cells cs 30):=⟨_,rfl⟩
 have hbx : Below w.heap.size w wc:=by rw [hwc]; exact (Below.refl w.heap.size w).alloc (Nat.le_refl _) _
 have hkx : Bk wc w.heap.size 30 cs:=by rw [hwc]; exact Bk.new w _ cs
 have HBX:=aa hbx
 have HKX:=aa hkx
 have HZ_name:=aa hz_name
 have HZ_secret:=aa hz_secret
 have HZ_kind:=aa hz_kind
 have HZ_value:=aa hz_value
 have HZ_text:=aa hz_text
 have HZ_rdn:=aa hz_rdn
 have C3:=aa c3
 have C1:=aa c1
 have HT_name:=aa fun (W : World) => aX M.name W HZ_name.out
 have HD:=aa fun (W : World) (hb : Below wc.heap.size wc W) => (show Calls Tryz.prog 75 #[.agg cs] W (aN M.bindT W) by
  have hkb:=hbx.trans (hb.mono hbx.size)
  rw [HCS.out]
  exact bind_t M m S W (h.keep hkb.size (fun x _ hlt => hkb.block x hlt) (fun _ h _ => h)) hv.1 hv.2)
 have p1 : (w.alloc (.cells cs 30)).cell? ⟨w.heap.size,1,none⟩ = some (.int .i64 0):=by rw [<- hwc]; exact (hkx.cell 1).trans c1
 have HBR:=aa (Below.refl wc.heap.size wc).drew
 have HKS:=aa fun (W : World) (hb : Below wc.heap.size wc W) => (show W.cell? ⟨w.heap.size,3,none⟩ = some (.string M.name) /\ Below wc.heap.size wc W from
  ⟨((af hkx hb).cell 3).trans C3.out,hb⟩)
 have HWC:=aa hwc
 clear hwc hbx hkx hcs hm hfl hat hli hmo hde hco c1 hz_name hz_secret hz_kind hz_value hz_text hz_rdn c3 h hop hv
 go_enter Tryz.func51,Tryz.ntmps51
 go_wp2_with (first
  | (rw [<- HWC.out]; refine wpList_load_row rfl 30 (.tmp 1) rfl w.heap.size rfl 30 cs (0,0) _ HKX.out Tryz.underlying30 rfl (by rw [HSZ.out]; exact HS.out) ?_)
  | (go_at_call 75; refine (HD.out _ (Below.refl _ _)).mono ?_; rintro e w1 ⟨hb1,q1,rfl,hq1⟩; have HB1:=aa hb1; have HQ1:=aa hq1; clear hb1 hq1)
  | fail)
 go_ret
 exact ⟨HBX.out.trans (HB1.out.mono HBX.out.size),q1,rfl,RowOf.keep au HQ1.out (Nat.le_refl _) (fun _ _ _ => rfl) (fun x hx _ => Nat.le_trans HBX.out.size hx)⟩
theorem partsw_3 (M : Ms) (m : MC) (S : Nat -> Prop) (w : World) (h : MsAt w S M m) (hop : M.op = 3) (hl : M.attrs.length <= 1000000) (h_scope : in64 M.scope) (h_deref : in64 M.deref) (h_size : in64 M.size) (h_time : in64 M.time) (hfil : FilDo M.filter) :
  Calls Tryz.prog 51 #[.agg m.cells] w (aN M.seaT w):=by
 have HS:=aa aT
 obtain ⟨f,at',li,mo,de,co,hm,⟨hz_name,hz_secret,hz_kind,hz_value,hz_text,hz_rdn⟩,hfl,hat,hli,hmo,hde,hco⟩:=id h
 obtain ⟨cs,hcs⟩ : ∃ cs,cs = m.cells:=⟨_,rfl⟩
 have c3 : cs[3]? = some (.string M.name):=by rw [hcs,hm]; rfl
 have c1 : cs[1]? = some (.int .i64 3):=by rw [hcs,hm,<- hop]; rfl
 have HSZ : Hid (cs.size = 31):=by rw [hcs]; rfl
 have HCS:=aa hcs
 rw [<- hcs]
 obtain ⟨wc,hwc⟩ : ∃ W,W = w.alloc (.cells cs 30):=⟨_,rfl⟩
 have hbx : Below w.heap.size w wc:=by rw [hwc]; exact (Below.refl w.heap.size w).alloc (Nat.le_refl _) _
 have hkx : Bk wc w.heap.size 30 cs:=by rw [hwc]; exact Bk.new w _ cs
 have HBX:=aa hbx
 have HKX:=aa hkx
 have HZ_name:=aa hz_name
 have HZ_secret:=aa hz_secret
 have HZ_kind:=aa hz_kind
 have HZ_value:=aa hz_value
 have HZ_text:=aa hz_text
 have HZ_rdn:=aa hz_rdn
 have C3:=aa c3
 have C1:=aa c1
 have HT_name:=aa fun (W : World) => aX M.name W HZ_name.out
 have HD:=aa fun (W : World) (hb : Below wc.heap.size wc W) => (show Calls Tryz.prog 76 #[.agg cs] W (aN M.seaT W) by
  have hkb:=hbx.trans (hb.mono hbx.size)
  rw [HCS.out]
  exact search_t M m S W (h.keep hkb.size (fun x _ hlt => hkb.block x hlt) (fun _ h _ => h)) hl h_scope h_deref h_size h_time (fun W c hat => hfil c S W hat))
 have p1 : (w.alloc (.cells cs 30)).cell? ⟨w.heap.size,1,none⟩ = some (.int .i64 3):=by rw [<- hwc]; exact (hkx.cell 1).trans c1
 have HBR:=aa (Below.refl wc.heap.size wc).drew
 have HKS:=aa fun (W : World) (hb : Below wc.heap.size wc W) => (show W.cell? ⟨w.heap.size,3,none⟩ = some (.string M.name) /\ Below wc.heap.size wc W from
  ⟨((af hkx hb).cell 3).trans C3.out,hb⟩)
 have HWC:=aa hwc
 clear hwc hbx hkx hcs hm hfl hat hli hmo hde hco c1 hz_name hz_secret hz_kind hz_value hz_text hz_rdn c3 h hop hl h_scope h_deref h_size h_time hfil
 go_enter Tryz.func51,Tryz.ntmps51
 go_wp2_with (first
  | (rw [<- HWC.out]; refine wpList_load_row rfl 30 (.tmp 1) rfl w.heap.size rfl 30 cs (0,0) _ HKX.out Tryz.underlying30 rfl (by rw [HSZ.out]; exact HS.out) ?_)
  | (go_at_call 76; refine (HD.out _ (Below.refl _ _)).mono ?_; rintro e w1 ⟨hb1,q1,rfl,hq1⟩; have HB1:=aa hb1; have HQ1:=aa hq1; clear hb1 hq1)
  | fail)
 go_ret
 exact ⟨HBX.out.trans (HB1.out.mono HBX.out.size),q1,rfl,RowOf.keep au HQ1.out (Nat.le_refl _) (fun _ _ _ => rfl) (fun x hx _ => Nat.le_trans HBX.out.size hx)⟩
structure OpWd (w wz : World) (op : Int) (k : Bool) (cs : Array Value) : Prop where
 size : wz.heap.size = w.heap.size + 3
 below : Below w.heap.size w wz
 box : Bk wz w.heap.size 30 cs
 res : Bk wz (w.heap.size + 1) 42 tz5
 val : Bk wz (w.heap.size + 2) 42 #[.int .i64 1,.bool k,.int .i64 op,.string ⟨#[]⟩,.slice none 0 0]
def opW (w : World) (op : Int) (k : Bool) (cs : Array Value) : World:=((w.alloc (.cells cs 30)).alloc (.cells tz5 42)).alloc (.cells #[.int .i64 1,.bool k,.int .i64 op,.string ⟨#[]⟩,.slice none 0 0] 42)
theorem opW_at (w : World) (op : Int) (k : Bool) (cs : Array Value) : OpWd w (opW w op k cs) op k cs:=by
 have h1 : (w.alloc (.cells cs 30)).heap.size = w.heap.size + 1:=by simp
 have h2 : ((w.alloc (.cells cs 30)).alloc (.cells tz5 42)).heap.size = w.heap.size + 2:=by simp
 refine ⟨by simp [opW],(((Below.refl _ w).alloc (Nat.le_refl _) _).alloc (by simp) _).alloc (by simp; omega) _,((Bk.new w _ _).alloc _).alloc _,?_,?_⟩
 ·have:=(Bk.new (w.alloc (.cells cs 30)) 42 tz5).alloc (.cells #[.int .i64 1,.bool k,.int .i64 op,.string ⟨#[]⟩,.slice none 0 0] 42)
  rw [h1] at this
  exact this
 ·have:=Bk.new ((w.alloc (.cells cs 30)).alloc (.cells tz5 42)) 42 #[.int .i64 1,.bool k,.int .i64 op,.string ⟨#[]⟩,.slice none 0 0]
  rw [h2] at this
  exact this
theorem op_delete (M : Ms) (m : MC) (S : Nat -> Prop) (w : World) (h : MsAt w S M m) (hop : M.op = 10) : Calls Tryz.prog 20 #[.agg m.cells] w (RetT (.mk 1 false 10 M.name []) w):=by
 obtain ⟨f,at',li,mo,de,co,hm,⟨hz_name,-⟩,-⟩:=h
 obtain ⟨cs,hcs⟩ : ∃ cs,cs = m.cells:=⟨_,rfl⟩
 have c1 : cs[1]? = some (.int .i64 10):=by rw [hcs,hm,<- hop]; rfl
 have c3 : cs[3]? = some (.string M.name):=by rw [hcs,hm]; rfl
 have HZ:=aa hz_name
 rw [<- hcs]
 clear hcs hm hop hz_name
 go_enter Tryz.func20,Tryz.ntmps20
 go_wp2_with fail
 refine bodyPost_ret (v:=.agg #[.int .i64 1,.bool false,.int .i64 10,.string M.name,.slice none 0 0]) (by simp [results,Tryz.results20,go_sem]) rfl ⟨?_,_,rfl,ew 1 10 false M.name _ _ rfl rfl HZ.out⟩
 exact (((Below.refl _ w).alloc (Nat.le_refl _) _).alloc (by simp) _).alloc (by simp; omega) _
theorem op_abandon (M : Ms) (m : MC) (S : Nat -> Prop) (w : World) (h : MsAt w S M m) (hop : M.op = 16) (ho : in64 M.other) : Calls Tryz.prog 20 #[.agg m.cells] w (RetT (.mk 1 false 16 ⟨(PB.ofNum M.other).toArray⟩ []) w):=by
 obtain ⟨f,at',li,mo,de,co,hm,-,-⟩:=h
 obtain ⟨cs,hcs⟩ : ∃ cs,cs = m.cells:=⟨_,rfl⟩
 have c1 : cs[1]? = some (.int .i64 16):=by rw [hcs,hm,<- hop]; rfl
 have c29 : cs[29]? = some (.int .i64 M.other):=by rw [hcs,hm]; rfl
 rw [<- hcs]
 have hW:=opW_at w 16 false cs
 obtain ⟨wz,hwz⟩ : ∃ W,W = opW w 16 false cs:=⟨_,rfl⟩
 rw [<- hwz] at hW
 have HW:=aa hW
 have HWZ:=aa hwz
 unfold opW at HWZ
 have HN:=aa fun (W : World) => ft 0 2 M.other W ho.1 ho.2
 have HLE:=aa (PB.ofNum_done M.other ho.1 ho.2).2.2
 clear hcs hm hop hwz hW ho
 go_enter Tryz.func20,Tryz.ntmps20
 go_wp2_with (first
  | (go_at_call 19; rw [<- HWZ.out]; refine (HN.out _).mono ?_; rintro e w1 ⟨⟨b,rfl,hb,-,-,hl⟩,hb1⟩; have hbb:=eo hl; have HFB:=aa (fun W => eZ 0 2 false b (.slice none 0 0) W); have hfb:=HFB.out w1; have hg1:=af HW.out.val hb1; have e0:=hg1.cell 0; have e1:=hg1.cell 1; have e2:=hg1.cell 2; have e3:=hg1.cell 3; have e4:=hg1.cell 4; have f3:=hg1.frozen 3; have elt:=hg1.lt; have HZ1:=aa ((af HW.out.res hb1).far (p:=⟨w.heap.size + 2,3,none⟩) (by simp) (.string b)); have HB1:=aa hb1; have HBB:=aa hbb; have HSB:=aa hb; unfold flat; clear hb1 hg1 hbb hl hb)
  | (refine ap rfl 42 (.tmp 2) (.tmp 27) rfl (w.heap.size + 1) rfl #[.int .i64 1,.bool false,.int .i64 16,.string b,.slice none 0 0] rfl 42 tz5 HZ1.out rfl (by kernel_rfl) (by simp [Value.oneCell']) (fun w9 hbk9 hof9 => ?_); have HOF9:=aa hof9; have r0:=hbk9.cell 0; have r1:=hbk9.cell 1; have r2:=hbk9.cell 2; have r3:=hbk9.cell 3; have r4:=hbk9.cell 4)
  | fail)
 have h1:=HW.out.below.trans (HB1.out.mono HW.out.below.size)
 have h9 : Below w.heap.size w w9:=(h1.setCell (p:=⟨w.heap.size + 2,3,none⟩) (by simp) (.string b)).trans (HOF9.out.below (B:=w.heap.size) (by simpa using h1.size) (by simp))
 exact bodyPost_ret (v:=.agg #[.int .i64 1,.bool false,.int .i64 16,.string b,.slice none 0 0]) (by simp [results,Tryz.results20,go_sem,r0,r1,r2,r3,r4]) rfl ⟨h9,_,rfl,by rw [<- HBB.out]; exact ew 1 16 false b _ _ rfl rfl (by have:=HSB.out; unfold maxLen; omega)⟩
theorem op_parts (M : Ms) (m : MC) (S : Nat -> Prop) (w : World) (h : MsAt w S M m) (hn2 : M.op ≠ 2) (hn10 : M.op ≠ 10) (hn16 : M.op ≠ 16) (hwf : (Lit.int .i64 M.op).wf = true)
  (hpa : ∀ W,Below w.heap.size w W -> Calls Tryz.prog 51 #[.agg m.cells] W (aN M.partsT W)) : Calls Tryz.prog 20 #[.agg m.cells] w (RetT (.mk 1 true M.op ⟨#[]⟩ M.partsT) w):=by
 have HS:=aa aT
 obtain ⟨f,at',li,mo,de,co,hm,-,-⟩:=h
 obtain ⟨cs,hcs⟩ : ∃ cs,cs = m.cells:=⟨_,rfl⟩
 have c1 : cs[1]? = some (.int .i64 M.op):=by rw [hcs,hm]; rfl
 have HSZ : Hid (cs.size = 31):=by rw [hcs]; rfl
 rw [<- hcs] at hpa |-
 have z2 : (M.op == 2) = false:=by simpa using hn2
 have z10 : (M.op == 10) = false:=by simpa using hn10
 have z16 : (M.op == 16) = false:=by simpa using hn16
 have hW:=opW_at w M.op true cs
 obtain ⟨wz,hwz⟩ : ∃ W,W = opW w M.op true cs:=⟨_,rfl⟩
 rw [<- hwz] at hW
 have HW:=aa hW
 have HWZ:=aa hwz
 unfold opW at HWZ
 have HD:=aa (hpa wz hW.below)
 have HWF:=aa hwf
 clear hcs hm hn2 hn10 hn16 hwz hW hpa hwf
 go_enter Tryz.func20,Tryz.ntmps20
 go_wp2_with (first
  | (rw [<- HWZ.out]; refine wpList_load_row rfl 30 (.tmp 1) rfl w.heap.size rfl 30 cs (0,0) _ HW.out.box Tryz.underlying30 rfl (by rw [HSZ.out]; exact HS.out) ?_)
  | (go_at_call 51; refine HD.out.mono ?_; rintro e w1 ⟨hb1,q1,rfl,hq1⟩; have hg1:=af HW.out.val hb1; have e0:=hg1.cell 0; have e1:=hg1.cell 1; have e2:=hg1.cell 2; have e3:=hg1.cell 3; have e4:=hg1.cell 4; have f4:=hg1.frozen 4; have elt:=hg1.lt; have HZ1:=aa ((af HW.out.res hb1).far (p:=⟨w.heap.size + 2,4,none⟩) (by simp) (.slice q1.A q1.n q1.c)); have HB1:=aa hb1; have HQ1:=aa hq1; clear hb1 hg1 hq1)
  | (refine ap rfl 42 (.tmp 2) (.tmp 27) rfl (w.heap.size + 1) rfl #[.int .i64 1,.bool true,.int .i64 M.op,.string ⟨#[]⟩,.slice q1.A q1.n q1.c] rfl 42 tz5 HZ1.out rfl (by kernel_rfl) (by simp [Value.oneCell']) (fun w9 hbk9 hof9 => ?_); have HOF9:=aa hof9; have r0:=hbk9.cell 0; have r1:=hbk9.cell 1; have r2:=hbk9.cell 2; have r3:=hbk9.cell 3; have r4:=hbk9.cell 4)
  | fail)
 have h1:=HW.out.below.trans (HB1.out.mono HW.out.below.size)
 have hof : Off [w.heap.size + 1,w.heap.size + 2] w1 w9:=((Off.refl [w.heap.size + 1,w.heap.size + 2] w1).setCell (.inl (by simp)) _).trans (HOF9.out.mono (by simp))
 refine bodyPost_ret (v:=.agg #[.int .i64 1,.bool true,.int .i64 M.op,.string ⟨#[]⟩,.slice q1.A q1.n q1.c]) (by simp [results,Tryz.results20,go_sem,r0,r1,r2,r3,r4]) rfl ⟨h1.trans (hof.below h1.size (by intro x hx; simp at hx; omega)),_,rfl,TlAt.keep hof.size (fun x hx hlt => hof.block x hlt ?_) (fun x hx _ => ?_) _ _ (bX 1 M.op true ⟨#[]⟩ HQ1.out rfl HWF.out (Nat.zero_le _))⟩
 ·have hx : wz.heap.size <= x:=hx
  have:=HW.out.size
  simp
  omega
 ·have hx : wz.heap.size <= x:=hx
  have:=HW.out.size
  show w.heap.size <= x
  omega
end Go.Proofs.YtbiglfpikfjbpaaGreatDoor
