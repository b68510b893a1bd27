import Derived.Test.YtbiglfpikfjbpaaGreatDoorM17
import Derived.Test.YtbiglfpikfjbpaaGreatDoorM10
import Derived.Test.YtbiglfpikfjbpaaGreatDoorM14
import Derived.Deep.CutBlock
import Derived.Deep.CutRange
namespace Go.Proofs.YtbiglfpikfjbpaaGreatDoor
open Go.RowKit
set_option maxRecDepth 100000
set_option linter.unusedVariables false
set_option linter.unusedSimpArgs false
set_option maxHeartbeats 40000000
theorem parts3_t (s : ByteArray) (w : World) (hs : s.size <= maxLen) : Calls Tryz.prog 83 #[.string s] w (RetT (.mk 2 false 0 s []) w):=by
 have HS:=aa hs
 clear hs
 go_enter Tryz.func83,Tryz.ntmps83
 go_wp2_with (first
  | (go_at_call 84; refine (ee 0 s _ rfl HS.out).mono ?_; rintro e w2 ⟨hb2,cs2,rfl,ht2⟩; obtain ⟨x0,x1,x2,x3,xA,xn,xc,rfl⟩:=ak ht2; have hz2 : Bk w2 w.heap.size 42 #[.int .i64 0,.bool false,.int .i64 0,.string ⟨#[]⟩,.slice none 0 0]:=af (Bk.new w 42 #[.int .i64 0,.bool false,.int .i64 0,.string ⟨#[]⟩,.slice none 0 0]) hb2; have HZ2:=aa hz2; have HB2:=aa hb2; have HT2:=aa ht2; clear hb2 ht2 hz2)
  | (refine ap rfl 42 (.tmp 2) (.tmp 4) rfl w.heap.size rfl #[.int .i64 x0,.bool x1,.int .i64 x2,.string x3,.slice xA xn xc] rfl 42 #[.int .i64 0,.bool false,.int .i64 0,.string ⟨#[]⟩,.slice none 0 0] HZ2.out rfl (by kernel_rfl) (by simp [Value.oneCell']) (fun w5 hbk5 hof5 => ?_); have HOF5:=aa hof5; have r0:=hbk5.cell 0; have r1:=hbk5.cell 1; have r2:=hbk5.cell 2; have r3:=hbk5.cell 3; have r4:=hbk5.cell 4)
  | fail)
 have h02:=((Below.refl w.heap.size w).alloc (Nat.le_refl _) (.cells #[.int .i64 0,.bool false,.int .i64 0,.string ⟨#[]⟩,.slice none 0 0] 42)).trans (HB2.out.mono (by simp))
 refine bodyPost_ret (v:=.agg #[.int .i64 x0,.bool x1,.int .i64 x2,.string x3,.slice xA xn xc]) (by simp [results,Tryz.results83,go_sem,r0,r1,r2,r3,r4]) rfl ⟨h02.trans (HOF5.out.below (B:=w.heap.size) h02.size (by simp)),_,rfl,TlAt.keep HOF5.out.size (fun x hx hlt => HOF5.out.block x hlt ?_) (fun x hx _ => ?_) _ _ HT2.out⟩
 ·have hx : (w.alloc _).heap.size <= x:=hx
  simp at hx |-
  omega
 ·have hx : (w.alloc _).heap.size <= x:=hx
  simp at hx
  show w.heap.size <= x
  omega
theorem fil1_t (s : ByteArray) (w : World) (hs : s.size <= maxLen) : Calls Tryz.prog 106 #[.string s] w (RetT (.mk 2 false 1 s []) w):=by
 have HS:=aa hs
 clear hs
 go_enter Tryz.func106,Tryz.ntmps106
 go_wp2_with (first
  | (go_at_call 84; refine (ee 1 s _ rfl HS.out).mono ?_; rintro e w2 ⟨hb2,cs2,rfl,ht2⟩; obtain ⟨x0,x1,x2,x3,xA,xn,xc,rfl⟩:=ak ht2; have hz2 : Bk w2 w.heap.size 42 #[.int .i64 0,.bool false,.int .i64 0,.string ⟨#[]⟩,.slice none 0 0]:=af (Bk.new w 42 #[.int .i64 0,.bool false,.int .i64 0,.string ⟨#[]⟩,.slice none 0 0]) hb2; have HZ2:=aa hz2; have HB2:=aa hb2; have HT2:=aa ht2; clear hb2 ht2 hz2)
  | (refine ap rfl 42 (.tmp 2) (.tmp 4) rfl w.heap.size rfl #[.int .i64 x0,.bool x1,.int .i64 x2,.string x3,.slice xA xn xc] rfl 42 #[.int .i64 0,.bool false,.int .i64 0,.string ⟨#[]⟩,.slice none 0 0] HZ2.out rfl (by kernel_rfl) (by simp [Value.oneCell']) (fun w5 hbk5 hof5 => ?_); have HOF5:=aa hof5; have r0:=hbk5.cell 0; have r1:=hbk5.cell 1; have r2:=hbk5.cell 2; have r3:=hbk5.cell 3; have r4:=hbk5.cell 4)
  | fail)
 have h02:=((Below.refl w.heap.size w).alloc (Nat.le_refl _) (.cells #[.int .i64 0,.bool false,.int .i64 0,.string ⟨#[]⟩,.slice none 0 0] 42)).trans (HB2.out.mono (by simp))
 refine bodyPost_ret (v:=.agg #[.int .i64 x0,.bool x1,.int .i64 x2,.string x3,.slice xA xn xc]) (by simp [results,Tryz.results106,go_sem,r0,r1,r2,r3,r4]) rfl ⟨h02.trans (HOF5.out.below (B:=w.heap.size) h02.size (by simp)),_,rfl,TlAt.keep HOF5.out.size (fun x hx hlt => HOF5.out.block x hlt ?_) (fun x hx _ => ?_) _ _ HT2.out⟩
 ·have hx : (w.alloc _).heap.size <= x:=hx
  simp at hx |-
  omega
 ·have hx : (w.alloc _).heap.size <= x:=hx
  simp at hx
  show w.heap.size <= x
  omega
theorem of_dest (A : Option Addr) (cap : Nat) (ss : List ByteArray) (tl : ByteArray -> Tl) (w : World) (hsl : Sl w A (ss.map Value.string)) (hn : ss.length <= 1000000)
  (hdo : ∀ s ∈ ss,∀ W,Calls Tryz.prog 83 #[.string s] W (RetT (tl s) W)) :
  Calls Tryz.prog 82 #[.slice A ss.length cap,.func (.func 83) #[] #[]] w (aN (ss.map tl) w):=by
 obtain ⟨i0,hi,hz0,hz1,hz2⟩:=info_parts aR
 have HSL:=aa hsl
 have HDO:=aa hdo
 have h0 : GRow 42 5 TlL w w.heap.size (.slice none 0 0) ((ss.take 0).map tl):=GRow.nil _ _
 have H0:=aa h0
 clear hsl hdo h0
 go_enter Tryz.func82,Tryz.ntmps82
 go_wp2_with fail
 go_loopw [5,10] (fun u i wr => ∃ (j : Nat),i = .int .i64 j /\ j <= ss.length /\ Hid (GRow 42 5 TlL wr w.heap.size u ((ss.take j).map tl)) /\ Below w.heap.size w wr) (fun _ i _ => ss.length - (intOf i).toNat)
 case atStart => exact ⟨0,rfl,Nat.zero_le _,H0,Below.refl _ _⟩
 case round =>
  obtain ⟨j,rfl,hj,hg,hb⟩:=hrel
  have HJ:=aa hj
  have HB:=aa hb
  have HG:=hg
  clear hg hb
  rcases Nat.lt_or_ge j ss.length with hlt | hge
  ·have hx : ss[j]? = some ss[j]:=List.getElem?_eq_getElem hlt
   have z1 : decide ((j : Int) < (ss.length : Int)) = true:=ab (by omega)
   obtain ⟨b,o,rfl,hbl,hc⟩:=HSL.out j (.string ss[j]) (by rw [List.getElem?_map,hx]; rfl)
   have c0 : wr.cell? ⟨b,o + j,none⟩ = some (.string ss[j]):=((bcell HB.out).1 b (o + j) hbl).trans hc
   obtain ⟨s,hs⟩ : ∃ s,s = ss[j]:=⟨_,rfl⟩
   rw [<- hs] at c0
   have HD:=aa (HDO.out s (by rw [hs]; exact List.getElem_mem hlt) wr)
   have HX:=aa (show ss[j]? = some s by rw [hs]; exact hx)
   obtain ⟨css,hcl,hck,hown,hall⟩:=HG.out
   have hlen : ((ss.take j).map tl).length = j:=by rw [List.length_map,List.length_take]; omega
   rw [hlen] at hown
   clear hx hs hc
   go_wp2_with (first
    | (go_at_call 83; refine HD.out.mono ?_; rintro e w2 ⟨hb2,cs2,rfl,ht2⟩; obtain ⟨x0,x1,x2,x3,xA,xn,xc,rfl⟩:=ak ht2; have hown2:=(Off.of_below hb2 []).own hown (by simp); have hs1:=HB.out.size; have hs2:=hb2.size)
    | (at_builtin; refine wpList_append_own_at _ rfl (.tmp 14) (.tmp 18) 40 rfl w.heap.size 42 i0 _ 5 64 Tryz.underlying40 hi hz0 hz1 hz2 rfl (by decide) u5 _ _ rfl (World.ownsRow.alloc (w:=w2) hown2 _) ⟨w2.heap.size,0,none⟩ 1 1 [.int .i64 x0,.bool x1,.int .i64 x2,.string x3,.slice xA xn xc] rfl rfl (World.news_of_block (cs:=#[.int .i64 x0,.bool x1,.int .i64 x2,.string x3,.slice xA xn xc]) (t:=42) (fr:=(0,0)) (heap_alloc_new w2 _)) (by simp [Value.oneCell']) (by unfold maxLen; omega) (by omega) (by simp; omega) ?_; intro v' w3 hown3 hgrow3 hnil3 hat3)
    | fail)
   have ha:=(Below.refl w2.heap.size w2).alloc (Nat.le_refl _) (.cells #[.int .i64 x0,.bool x1,.int .i64 x2,.string x3,.slice xA xn xc] 42)
   have hp:=GRow.push au (w:=wr) (w1:=w2) (w2:=w2.alloc (.cells #[.int .i64 x0,.bool x1,.int .i64 x2,.string x3,.slice xA xn xc] 42)) (d:=tl s) (c:=[.int .i64 x0,.bool x1,.int .i64 x2,.string x3,.slice xA xn xc]) hs1 hcl hck (by rw [hlen]; exact hown) hall (fun x _ hlt => hb2.block x hlt) hs2 rfl ht2 ha (by rw [hlen]; exact hown3) hgrow3 hat3
   have e1 : (ss.take j).map tl ++ [tl s] = (ss.take (j + 1)).map tl:=by rw [cw HX.out,List.map_append]; rfl
   rw [e1] at hp
   refine ⟨⟨j + 1,by simp,by omega,hp,?_⟩,?_⟩
   ·have h1:=HB.out.trans (hb2.mono hs1)
    have h2:=h1.alloc h1.size (.cells #[.int .i64 x0,.bool x1,.int .i64 x2,.string x3,.slice xA xn xc] 42)
    have h3 : Off [] w (w2.alloc (.cells #[.int .i64 x0,.bool x1,.int .i64 x2,.string x3,.slice xA xn xc] 42)):=Off.of_below h2 []
    exact (h3.grown hgrow3 (fun g hg => .inr (hown.lt g hg).1)).below (Nat.le_refl _) (by simp)
   ·show ss.length - ((j : Int) + 1).toNat < ss.length - (j : Int).toNat
    omega
  ·have z1 : decide ((j : Int) < (ss.length : Int)) = false:=ae (by omega)
   obtain rfl : j = ss.length:=by omega
   obtain ⟨q,rfl,hq⟩:=GRow.row au HG.out
   rw [List.take_length] at hq
   have HQ:=aa hq
   clear hq
   go_wp2_with fail
   go_ret
   exact ⟨HB.out,q,rfl,HQ.out⟩
theorem of_any (A : Option Addr) (cap : Nat) (ss : List ByteArray) (tl : ByteArray -> Tl) (w : World) (hsl : Sl w A (ss.map Value.string)) (hn : ss.length <= 1000000)
  (hdo : ∀ s ∈ ss,∀ W,Calls Tryz.prog 106 #[.string s] W (RetT (tl s) W)) :
  Calls Tryz.prog 82 #[.slice A ss.length cap,.func (.func 106) #[] #[]] w (aN (ss.map tl) w):=by
 obtain ⟨i0,hi,hz0,hz1,hz2⟩:=info_parts aR
 have HSL:=aa hsl
 have HDO:=aa hdo
 have h0 : GRow 42 5 TlL w w.heap.size (.slice none 0 0) ((ss.take 0).map tl):=GRow.nil _ _
 have H0:=aa h0
 clear hsl hdo h0
 go_enter Tryz.func82,Tryz.ntmps82
 go_wp2_with fail
 go_loopw [5,10] (fun u i wr => ∃ (j : Nat),i = .int .i64 j /\ j <= ss.length /\ Hid (GRow 42 5 TlL wr w.heap.size u ((ss.take j).map tl)) /\ Below w.heap.size w wr) (fun _ i _ => ss.length - (intOf i).toNat)
 case atStart => exact ⟨0,rfl,Nat.zero_le _,H0,Below.refl _ _⟩
 case round =>
  obtain ⟨j,rfl,hj,hg,hb⟩:=hrel
  have HJ:=aa hj
  have HB:=aa hb
  have HG:=hg
  clear hg hb
  rcases Nat.lt_or_ge j ss.length with hlt | hge
  ·have hx : ss[j]? = some ss[j]:=List.getElem?_eq_getElem hlt
   have z1 : decide ((j : Int) < (ss.length : Int)) = true:=ab (by omega)
   obtain ⟨b,o,rfl,hbl,hc⟩:=HSL.out j (.string ss[j]) (by rw [List.getElem?_map,hx]; rfl)
   have c0 : wr.cell? ⟨b,o + j,none⟩ = some (.string ss[j]):=((bcell HB.out).1 b (o + j) hbl).trans hc
   obtain ⟨s,hs⟩ : ∃ s,s = ss[j]:=⟨_,rfl⟩
   rw [<- hs] at c0
   have HD:=aa (HDO.out s (by rw [hs]; exact List.getElem_mem hlt) wr)
   have HX:=aa (show ss[j]? = some s by rw [hs]; exact hx)
   obtain ⟨css,hcl,hck,hown,hall⟩:=HG.out
   have hlen : ((ss.take j).map tl).length = j:=by rw [List.length_map,List.length_take]; omega
   rw [hlen] at hown
   clear hx hs hc
   go_wp2_with (first
    | (go_at_call 106; refine HD.out.mono ?_; rintro e w2 ⟨hb2,cs2,rfl,ht2⟩; obtain ⟨x0,x1,x2,x3,xA,xn,xc,rfl⟩:=ak ht2; have hown2:=(Off.of_below hb2 []).own hown (by simp); have hs1:=HB.out.size; have hs2:=hb2.size)
    | (at_builtin; refine wpList_append_own_at _ rfl (.tmp 14) (.tmp 18) 40 rfl w.heap.size 42 i0 _ 5 64 Tryz.underlying40 hi hz0 hz1 hz2 rfl (by decide) u5 _ _ rfl (World.ownsRow.alloc (w:=w2) hown2 _) ⟨w2.heap.size,0,none⟩ 1 1 [.int .i64 x0,.bool x1,.int .i64 x2,.string x3,.slice xA xn xc] rfl rfl (World.news_of_block (cs:=#[.int .i64 x0,.bool x1,.int .i64 x2,.string x3,.slice xA xn xc]) (t:=42) (fr:=(0,0)) (heap_alloc_new w2 _)) (by simp [Value.oneCell']) (by unfold maxLen; omega) (by omega) (by simp; omega) ?_; intro v' w3 hown3 hgrow3 hnil3 hat3)
    | fail)
   have ha:=(Below.refl w2.heap.size w2).alloc (Nat.le_refl _) (.cells #[.int .i64 x0,.bool x1,.int .i64 x2,.string x3,.slice xA xn xc] 42)
   have hp:=GRow.push au (w:=wr) (w1:=w2) (w2:=w2.alloc (.cells #[.int .i64 x0,.bool x1,.int .i64 x2,.string x3,.slice xA xn xc] 42)) (d:=tl s) (c:=[.int .i64 x0,.bool x1,.int .i64 x2,.string x3,.slice xA xn xc]) hs1 hcl hck (by rw [hlen]; exact hown) hall (fun x _ hlt => hb2.block x hlt) hs2 rfl ht2 ha (by rw [hlen]; exact hown3) hgrow3 hat3
   have e1 : (ss.take j).map tl ++ [tl s] = (ss.take (j + 1)).map tl:=by rw [cw HX.out,List.map_append]; rfl
   rw [e1] at hp
   refine ⟨⟨j + 1,by simp,by omega,hp,?_⟩,?_⟩
   ·have h1:=HB.out.trans (hb2.mono hs1)
    have h2:=h1.alloc h1.size (.cells #[.int .i64 x0,.bool x1,.int .i64 x2,.string x3,.slice xA xn xc] 42)
    have h3 : Off [] w (w2.alloc (.cells #[.int .i64 x0,.bool x1,.int .i64 x2,.string x3,.slice xA xn xc] 42)):=Off.of_below h2 []
    exact (h3.grown hgrow3 (fun g hg => .inr (hown.lt g hg).1)).below (Nat.le_refl _) (by simp)
   ·show ss.length - ((j : Int) + 1).toNat < ss.length - (j : Int).toNat
    omega
  ·have z1 : decide ((j : Int) < (ss.length : Int)) = false:=ae (by omega)
   obtain rfl : j = ss.length:=by omega
   obtain ⟨q,rfl,hq⟩:=GRow.row au HG.out
   rw [List.take_length] at hq
   have HQ:=aa hq
   clear hq
   go_wp2_with fail
   go_ret
   exact ⟨HB.out,q,rfl,HQ.out⟩
theorem coAt_form {w : World} {S : Nat -> Prop} {d : Co} {c : List Value} (h : CoAt w S d c) : ∃ (s : ByteArray) (q r : Bool) (v : ByteArray),c = [.string s,.bool q,.bool r,.string v]:=⟨_,_,_,_,h.1⟩
theorem of_attr (A : Option Addr) (cap : Nat) (ss : List At) (S : Nat -> Prop) (tl : At -> Tl) (w : World) (hsl : RowOf 2 bQ w S ⟨A,ss.length,cap⟩ ss) (hn : ss.length <= 1000000)
  (hdo : ∀ s ∈ ss,∀ W c,Below w.heap.size w W -> bQ W S s c -> Calls Tryz.prog 78 #[.agg c.toArray] W (RetT (tl s) W)) :
  Calls Tryz.prog 77 #[.slice A ss.length cap,.func (.func 78) #[] #[]] w (aN (ss.map tl) w):=by
 obtain ⟨i0,hi,hz0,hz1,hz2⟩:=info_parts aR
 have HSL:=aa hsl
 have HDO:=aa hdo
 have h0 : GRow 42 5 TlL w w.heap.size (.slice none 0 0) ((ss.take 0).map tl):=GRow.nil _ _
 have H0:=aa h0
 clear hsl hdo h0
 go_enter Tryz.func77,Tryz.ntmps77
 go_wp2_with fail
 go_loopw [5,10] (fun u i wr => ∃ (j : Nat),i = .int .i64 j /\ j <= ss.length /\ Hid (GRow 42 5 TlL wr w.heap.size u ((ss.take j).map tl)) /\ Below w.heap.size w wr) (fun _ i _ => ss.length - (intOf i).toNat)
 case atStart => exact ⟨0,rfl,Nat.zero_le _,H0,Below.refl _ _⟩
 case round =>
  obtain ⟨j,rfl,hj,hg,hb⟩:=hrel
  have HJ:=aa hj
  have HB:=aa hb
  have HG:=hg
  clear hg hb
  rcases Nat.lt_or_ge j ss.length with hlt | hge
  ·have hx : ss[j]? = some ss[j]:=List.getElem?_eq_getElem hlt
   have z1 : decide ((j : Int) < (ss.length : Int)) = true:=ab (by omega)
   obtain ⟨b,o,c,hA,hS,hcl0,hc,hat⟩:=HSL.out.2.2.2 j ss[j] hx
   obtain rfl : A = some ⟨b,o,none⟩:=hA
   have hcap : ss.length <= cap /\ cap <= 9223372036854775807:=⟨HSL.out.2.1,by have:=HSL.out.2.2.1; unfold maxLen at this; simp at this; omega⟩
   obtain ⟨hcap1,hcap2⟩:=hcap
   obtain ⟨y0,yA,yn,yc,rfl⟩:=dF hat
   have hcw : ∀ o',wr.cell? ⟨b,o',none⟩ = w.cell? ⟨b,o',none⟩:=fun o' => HB.out.cell (p:=⟨b,o',none⟩) hS.2
   have q0 : wr.cell? ⟨b,o + j * 2,none⟩ = some (.string y0):=(hcw _).trans (hc 0 _ rfl)
   have q1 : wr.cell? ⟨b,o + j * 2 + 1,none⟩ = some (.slice yA yn yc):=(hcw _).trans (hc 1 _ rfl)
   have hba:=(Below.refl wr.heap.size wr).alloc (Nat.le_refl _) (.cells #[.string y0,.slice yA yn yc] 50)
   have hball:=HB.out.trans (hba.mono HB.out.size)
   have hbr : b < wr.heap.size:=Nat.lt_of_lt_of_le hS.2 HB.out.size
   obtain ⟨s,hs⟩ : ∃ s,s = ss[j]:=⟨_,rfl⟩
   rw [<- hs] at hat
   have HD:=aa (HDO.out s (by rw [hs]; exact List.getElem_mem hlt) (wr.alloc (.cells #[.string y0,.slice yA yn yc] 50)) _ hball (aH (T:=S) hball.size (fun x _ hlt => hball.block x hlt) (fun _ h _ => h) _ _ hat))
   have HBA:=aa hba
   have HX:=aa (show ss[j]? = some s by rw [hs]; exact hx)
   obtain ⟨css,hcl,hck,hown,hall⟩:=HG.out
   have hlen : ((ss.take j).map tl).length = j:=by rw [List.length_map,List.length_take]; omega
   rw [hlen] at hown
   clear hx hs hc hat hcw hba hball hS hcl0
   go_wp2_with (first
    | (go_at_call 78; refine HD.out.mono ?_; rintro e w2 ⟨hb2a,cs2,rfl,ht2a⟩; obtain ⟨x0,x1,x2,x3,xA,xn,xc,rfl⟩:=ak ht2a; have hb2:=HBA.out.trans (hb2a.mono HBA.out.size); have ht2:=TlAt.keep (T:=fun x => wr.heap.size <= x) (Nat.le_refl _) (fun _ _ _ => rfl) (fun x hx _ => Nat.le_trans HBA.out.size hx) _ _ ht2a; clear hb2a ht2a; have hown2:=(Off.of_below hb2 []).own hown (by simp); have hs1:=HB.out.size; have hs2:=hb2.size)
    | (at_builtin; refine wpList_append_own_at _ rfl (.tmp 14) (.tmp 18) 40 rfl w.heap.size 42 i0 _ 5 64 Tryz.underlying40 hi hz0 hz1 hz2 rfl (by decide) u5 _ _ rfl (World.ownsRow.alloc (w:=w2) hown2 _) ⟨w2.heap.size,0,none⟩ 1 1 [.int .i64 x0,.bool x1,.int .i64 x2,.string x3,.slice xA xn xc] rfl rfl (World.news_of_block (cs:=#[.int .i64 x0,.bool x1,.int .i64 x2,.string x3,.slice xA xn xc]) (t:=42) (fr:=(0,0)) (heap_alloc_new w2 _)) (by simp [Value.oneCell']) (by unfold maxLen; omega) (by omega) (by simp; omega) ?_; intro v' w3 hown3 hgrow3 hnil3 hat3)
    | fail)
   have ha:=(Below.refl w2.heap.size w2).alloc (Nat.le_refl _) (.cells #[.int .i64 x0,.bool x1,.int .i64 x2,.string x3,.slice xA xn xc] 42)
   have hp:=GRow.push au (w:=wr) (w1:=w2) (w2:=w2.alloc (.cells #[.int .i64 x0,.bool x1,.int .i64 x2,.string x3,.slice xA xn xc] 42)) (d:=tl s) (c:=[.int .i64 x0,.bool x1,.int .i64 x2,.string x3,.slice xA xn xc]) hs1 hcl hck (by rw [hlen]; exact hown) hall (fun x _ hlt => hb2.block x hlt) hs2 rfl ht2 ha (by rw [hlen]; exact hown3) hgrow3 hat3
   have e1 : (ss.take j).map tl ++ [tl s] = (ss.take (j + 1)).map tl:=by rw [cw HX.out,List.map_append]; rfl
   rw [e1] at hp
   refine ⟨⟨j + 1,by simp,by omega,hp,?_⟩,?_⟩
   ·have h1:=HB.out.trans (hb2.mono hs1)
    have h2:=h1.alloc h1.size (.cells #[.int .i64 x0,.bool x1,.int .i64 x2,.string x3,.slice xA xn xc] 42)
    have h3 : Off [] w (w2.alloc (.cells #[.int .i64 x0,.bool x1,.int .i64 x2,.string x3,.slice xA xn xc] 42)):=Off.of_below h2 []
    exact (h3.grown hgrow3 (fun g hg => .inr (hown.lt g hg).1)).below (Nat.le_refl _) (by simp)
   ·show ss.length - ((j : Int) + 1).toNat < ss.length - (j : Int).toNat
    omega
  ·have z1 : decide ((j : Int) < (ss.length : Int)) = false:=ae (by omega)
   obtain rfl : j = ss.length:=by omega
   obtain ⟨q,rfl,hq⟩:=GRow.row au HG.out
   rw [List.take_length] at hq
   have HQ:=aa hq
   clear hq
   go_wp2_with fail
   go_ret
   exact ⟨HB.out,q,rfl,HQ.out⟩
theorem of_mod (A : Option Addr) (cap : Nat) (ss : List Md) (S : Nat -> Prop) (tl : Md -> Tl) (w : World) (hsl : RowOf 3 dy w S ⟨A,ss.length,cap⟩ ss) (hn : ss.length <= 1000000)
  (hdo : ∀ s ∈ ss,∀ W c,Below w.heap.size w W -> dy W S s c -> Calls Tryz.prog 81 #[.agg c.toArray] W (RetT (tl s) W)) :
  Calls Tryz.prog 80 #[.slice A ss.length cap,.func (.func 81) #[] #[]] w (aN (ss.map tl) w):=by
 obtain ⟨i0,hi,hz0,hz1,hz2⟩:=info_parts aR
 have HSL:=aa hsl
 have HDO:=aa hdo
 have h0 : GRow 42 5 TlL w w.heap.size (.slice none 0 0) ((ss.take 0).map tl):=GRow.nil _ _
 have H0:=aa h0
 clear hsl hdo h0
 go_enter Tryz.func80,Tryz.ntmps80
 go_wp2_with fail
 go_loopw [5,10] (fun u i wr => ∃ (j : Nat),i = .int .i64 j /\ j <= ss.length /\ Hid (GRow 42 5 TlL wr w.heap.size u ((ss.take j).map tl)) /\ Below w.heap.size w wr) (fun _ i _ => ss.length - (intOf i).toNat)
 case atStart => exact ⟨0,rfl,Nat.zero_le _,H0,Below.refl _ _⟩
 case round =>
  obtain ⟨j,rfl,hj,hg,hb⟩:=hrel
  have HJ:=aa hj
  have HB:=aa hb
  have HG:=hg
  clear hg hb
  rcases Nat.lt_or_ge j ss.length with hlt | hge
  ·have hx : ss[j]? = some ss[j]:=List.getElem?_eq_getElem hlt
   have z1 : decide ((j : Int) < (ss.length : Int)) = true:=ab (by omega)
   obtain ⟨b,o,c,hA,hS,hcl0,hc,hat⟩:=HSL.out.2.2.2 j ss[j] hx
   obtain rfl : A = some ⟨b,o,none⟩:=hA
   have hcap : ss.length <= cap /\ cap <= 9223372036854775807:=⟨HSL.out.2.1,by have:=HSL.out.2.2.1; unfold maxLen at this; simp at this; omega⟩
   obtain ⟨hcap1,hcap2⟩:=hcap
   obtain ⟨y0,y1,yA,yn,yc,rfl⟩:=modAt_form hat
   have hcw : ∀ o',wr.cell? ⟨b,o',none⟩ = w.cell? ⟨b,o',none⟩:=fun o' => HB.out.cell (p:=⟨b,o',none⟩) hS.2
   have q0 : wr.cell? ⟨b,o + j * 3,none⟩ = some (.int .i64 y0):=(hcw _).trans (hc 0 _ rfl)
   have q1 : wr.cell? ⟨b,o + j * 3 + 1,none⟩ = some (.string y1):=(hcw _).trans (hc 1 _ rfl)
   have q2 : wr.cell? ⟨b,o + j * 3 + 2,none⟩ = some (.slice yA yn yc):=(hcw _).trans (hc 2 _ rfl)
   have hba:=(Below.refl wr.heap.size wr).alloc (Nat.le_refl _) (.cells #[.int .i64 y0,.string y1,.slice yA yn yc] 52)
   have hball:=HB.out.trans (hba.mono HB.out.size)
   have hbr : b < wr.heap.size:=Nat.lt_of_lt_of_le hS.2 HB.out.size
   obtain ⟨s,hs⟩ : ∃ s,s = ss[j]:=⟨_,rfl⟩
   rw [<- hs] at hat
   have HD:=aa (HDO.out s (by rw [hs]; exact List.getElem_mem hlt) (wr.alloc (.cells #[.int .i64 y0,.string y1,.slice yA yn yc] 52)) _ hball (bJ (T:=S) hball.size (fun x _ hlt => hball.block x hlt) (fun _ h _ => h) _ _ hat))
   have HBA:=aa hba
   have HX:=aa (show ss[j]? = some s by rw [hs]; exact hx)
   obtain ⟨css,hcl,hck,hown,hall⟩:=HG.out
   have hlen : ((ss.take j).map tl).length = j:=by rw [List.length_map,List.length_take]; omega
   rw [hlen] at hown
   clear hx hs hc hat hcw hba hball hS hcl0
   go_wp2_with (first
    | (go_at_call 81; refine HD.out.mono ?_; rintro e w2 ⟨hb2a,cs2,rfl,ht2a⟩; obtain ⟨x0,x1,x2,x3,xA,xn,xc,rfl⟩:=ak ht2a; have hb2:=HBA.out.trans (hb2a.mono HBA.out.size); have ht2:=TlAt.keep (T:=fun x => wr.heap.size <= x) (Nat.le_refl _) (fun _ _ _ => rfl) (fun x hx _ => Nat.le_trans HBA.out.size hx) _ _ ht2a; clear hb2a ht2a; have hown2:=(Off.of_below hb2 []).own hown (by simp); have hs1:=HB.out.size; have hs2:=hb2.size)
    | (at_builtin; refine wpList_append_own_at _ rfl (.tmp 14) (.tmp 18) 40 rfl w.heap.size 42 i0 _ 5 64 Tryz.underlying40 hi hz0 hz1 hz2 rfl (by decide) u5 _ _ rfl (World.ownsRow.alloc (w:=w2) hown2 _) ⟨w2.heap.size,0,none⟩ 1 1 [.int .i64 x0,.bool x1,.int .i64 x2,.string x3,.slice xA xn xc] rfl rfl (World.news_of_block (cs:=#[.int .i64 x0,.bool x1,.int .i64 x2,.string x3,.slice xA xn xc]) (t:=42) (fr:=(0,0)) (heap_alloc_new w2 _)) (by simp [Value.oneCell']) (by unfold maxLen; omega) (by omega) (by simp; omega) ?_; intro v' w3 hown3 hgrow3 hnil3 hat3)
    | fail)
   have ha:=(Below.refl w2.heap.size w2).alloc (Nat.le_refl _) (.cells #[.int .i64 x0,.bool x1,.int .i64 x2,.string x3,.slice xA xn xc] 42)
   have hp:=GRow.push au (w:=wr) (w1:=w2) (w2:=w2.alloc (.cells #[.int .i64 x0,.bool x1,.int .i64 x2,.string x3,.slice xA xn xc] 42)) (d:=tl s) (c:=[.int .i64 x0,.bool x1,.int .i64 x2,.string x3,.slice xA xn xc]) hs1 hcl hck (by rw [hlen]; exact hown) hall (fun x _ hlt => hb2.block x hlt) hs2 rfl ht2 ha (by rw [hlen]; exact hown3) hgrow3 hat3
   have e1 : (ss.take j).map tl ++ [tl s] = (ss.take (j + 1)).map tl:=by rw [cw HX.out,List.map_append]; rfl
   rw [e1] at hp
   refine ⟨⟨j + 1,by simp,by omega,hp,?_⟩,?_⟩
   ·have h1:=HB.out.trans (hb2.mono hs1)
    have h2:=h1.alloc h1.size (.cells #[.int .i64 x0,.bool x1,.int .i64 x2,.string x3,.slice xA xn xc] 42)
    have h3 : Off [] w (w2.alloc (.cells #[.int .i64 x0,.bool x1,.int .i64 x2,.string x3,.slice xA xn xc] 42)):=Off.of_below h2 []
    exact (h3.grown hgrow3 (fun g hg => .inr (hown.lt g hg).1)).below (Nat.le_refl _) (by simp)
   ·show ss.length - ((j : Int) + 1).toNat < ss.length - (j : Int).toNat
    omega
  ·have z1 : decide ((j : Int) < (ss.length : Int)) = false:=ae (by omega)
   obtain rfl : j = ss.length:=by omega
   obtain ⟨q,rfl,hq⟩:=GRow.row au HG.out
   rw [List.take_length] at hq
   have HQ:=aa hq
   clear hq
   go_wp2_with fail
   go_ret
   exact ⟨HB.out,q,rfl,HQ.out⟩
theorem of_ctl (A : Option Addr) (cap : Nat) (ss : List Co) (S : Nat -> Prop) (tl : Co -> Tl) (w : World) (hsl : RowOf 4 CoAt w S ⟨A,ss.length,cap⟩ ss) (hn : ss.length <= 1000000)
  (hdo : ∀ s ∈ ss,∀ W c,Below w.heap.size w W -> CoAt W S s c -> Calls Tryz.prog 22 #[.agg c.toArray] W (RetT (tl s) W)) :
  Calls Tryz.prog 21 #[.slice A ss.length cap,.func (.func 22) #[] #[]] w (aN (ss.map tl) w):=by
 obtain ⟨i0,hi,hz0,hz1,hz2⟩:=info_parts aR
 have HSL:=aa hsl
 have HDO:=aa hdo
 have h0 : GRow 42 5 TlL w w.heap.size (.slice none 0 0) ((ss.take 0).map tl):=GRow.nil _ _
 have H0:=aa h0
 clear hsl hdo h0
 go_enter Tryz.func21,Tryz.ntmps21
 go_wp2_with fail
 go_loopw [5,10] (fun u i wr => ∃ (j : Nat),i = .int .i64 j /\ j <= ss.length /\ Hid (GRow 42 5 TlL wr w.heap.size u ((ss.take j).map tl)) /\ Below w.heap.size w wr) (fun _ i _ => ss.length - (intOf i).toNat)
 case atStart => exact ⟨0,rfl,Nat.zero_le _,H0,Below.refl _ _⟩
 case round =>
  obtain ⟨j,rfl,hj,hg,hb⟩:=hrel
  have HJ:=aa hj
  have HB:=aa hb
  have HG:=hg
  clear hg hb
  rcases Nat.lt_or_ge j ss.length with hlt | hge
  ·have hx : ss[j]? = some ss[j]:=List.getElem?_eq_getElem hlt
   have z1 : decide ((j : Int) < (ss.length : Int)) = true:=ab (by omega)
   obtain ⟨b,o,c,hA,hS,hcl0,hc,hat⟩:=HSL.out.2.2.2 j ss[j] hx
   obtain rfl : A = some ⟨b,o,none⟩:=hA
   have hcap : ss.length <= cap /\ cap <= 9223372036854775807:=⟨HSL.out.2.1,by have:=HSL.out.2.2.1; unfold maxLen at this; simp at this; omega⟩
   obtain ⟨hcap1,hcap2⟩:=hcap
   obtain ⟨y0,y1,y2,y3,rfl⟩:=coAt_form hat
   have hcw : ∀ o',wr.cell? ⟨b,o',none⟩ = w.cell? ⟨b,o',none⟩:=fun o' => HB.out.cell (p:=⟨b,o',none⟩) hS.2
   have q0 : wr.cell? ⟨b,o + j * 4,none⟩ = some (.string y0):=(hcw _).trans (hc 0 _ rfl)
   have q1 : wr.cell? ⟨b,o + j * 4 + 1,none⟩ = some (.bool y1):=(hcw _).trans (hc 1 _ rfl)
   have q2 : wr.cell? ⟨b,o + j * 4 + 2,none⟩ = some (.bool y2):=(hcw _).trans (hc 2 _ rfl)
   have q3 : wr.cell? ⟨b,o + j * 4 + 3,none⟩ = some (.string y3):=(hcw _).trans (hc 3 _ rfl)
   have hba:=(Below.refl wr.heap.size wr).alloc (Nat.le_refl _) (.cells #[.string y0,.bool y1,.bool y2,.string y3] 54)
   have hball:=HB.out.trans (hba.mono HB.out.size)
   have hbr : b < wr.heap.size:=Nat.lt_of_lt_of_le hS.2 HB.out.size
   obtain ⟨s,hs⟩ : ∃ s,s = ss[j]:=⟨_,rfl⟩
   rw [<- hs] at hat
   have HD:=aa (HDO.out s (by rw [hs]; exact List.getElem_mem hlt) (wr.alloc (.cells #[.string y0,.bool y1,.bool y2,.string y3] 54)) _ hball (bV (T:=S) hball.size (fun x _ hlt => hball.block x hlt) (fun _ h _ => h) _ _ hat))
   have HBA:=aa hba
   have HX:=aa (show ss[j]? = some s by rw [hs]; exact hx)
   obtain ⟨css,hcl,hck,hown,hall⟩:=HG.out
   have hlen : ((ss.take j).map tl).length = j:=by rw [List.length_map,List.length_take]; omega
   rw [hlen] at hown
   clear hx hs hc hat hcw hba hball hS hcl0
   go_wp2_with (first
    | (go_at_call 22; refine HD.out.mono ?_; rintro e w2 ⟨hb2a,cs2,rfl,ht2a⟩; obtain ⟨x0,x1,x2,x3,xA,xn,xc,rfl⟩:=ak ht2a; have hb2:=HBA.out.trans (hb2a.mono HBA.out.size); have ht2:=TlAt.keep (T:=fun x => wr.heap.size <= x) (Nat.le_refl _) (fun _ _ _ => rfl) (fun x hx _ => Nat.le_trans HBA.out.size hx) _ _ ht2a; clear hb2a ht2a; have hown2:=(Off.of_below hb2 []).own hown (by simp); have hs1:=HB.out.size; have hs2:=hb2.size)
    | (at_builtin; refine wpList_append_own_at _ rfl (.tmp 14) (.tmp 18) 40 rfl w.heap.size 42 i0 _ 5 64 Tryz.underlying40 hi hz0 hz1 hz2 rfl (by decide) u5 _ _ rfl (World.ownsRow.alloc (w:=w2) hown2 _) ⟨w2.heap.size,0,none⟩ 1 1 [.int .i64 x0,.bool x1,.int .i64 x2,.string x3,.slice xA xn xc] rfl rfl (World.news_of_block (cs:=#[.int .i64 x0,.bool x1,.int .i64 x2,.string x3,.slice xA xn xc]) (t:=42) (fr:=(0,0)) (heap_alloc_new w2 _)) (by simp [Value.oneCell']) (by unfold maxLen; omega) (by omega) (by simp; omega) ?_; intro v' w3 hown3 hgrow3 hnil3 hat3)
    | fail)
   have ha:=(Below.refl w2.heap.size w2).alloc (Nat.le_refl _) (.cells #[.int .i64 x0,.bool x1,.int .i64 x2,.string x3,.slice xA xn xc] 42)
   have hp:=GRow.push au (w:=wr) (w1:=w2) (w2:=w2.alloc (.cells #[.int .i64 x0,.bool x1,.int .i64 x2,.string x3,.slice xA xn xc] 42)) (d:=tl s) (c:=[.int .i64 x0,.bool x1,.int .i64 x2,.string x3,.slice xA xn xc]) hs1 hcl hck (by rw [hlen]; exact hown) hall (fun x _ hlt => hb2.block x hlt) hs2 rfl ht2 ha (by rw [hlen]; exact hown3) hgrow3 hat3
   have e1 : (ss.take j).map tl ++ [tl s] = (ss.take (j + 1)).map tl:=by rw [cw HX.out,List.map_append]; rfl
   rw [e1] at hp
   refine ⟨⟨j + 1,by simp,by omega,hp,?_⟩,?_⟩
   ·have h1:=HB.out.trans (hb2.mono hs1)
    have h2:=h1.alloc h1.size (.cells #[.int .i64 x0,.bool x1,.int .i64 x2,.string x3,.slice xA xn xc] 42)
    have h3 : Off [] w (w2.alloc (.cells #[.int .i64 x0,.bool x1,.int .i64 x2,.string x3,.slice xA xn xc] 42)):=Off.of_below h2 []
    exact (h3.grown hgrow3 (fun g hg => .inr (hown.lt g hg).1)).below (Nat.le_refl _) (by simp)
   ·show ss.length - ((j : Int) + 1).toNat < ss.length - (j : Int).toNat
    omega
  ·have z1 : decide ((j : Int) < (ss.length : Int)) = false:=ae (by omega)
   obtain rfl : j = ss.length:=by omega
   obtain ⟨q,rfl,hq⟩:=GRow.row au HG.out
   rw [List.take_length] at hq
   have HQ:=aa hq
   clear hq
   go_wp2_with fail
   go_ret
   exact ⟨HB.out,q,rfl,HQ.out⟩
theorem of_fil (A : Option Addr) (cap : Nat) (ss : List Fl) (S : Nat -> Prop) (tl : Fl -> Tl) (w : World) (hsl : RowOf 7 FlAt w S ⟨A,ss.length,cap⟩ ss) (hn : ss.length <= 1000000)
  (hdo : ∀ s ∈ ss,∀ W c,Below w.heap.size w W -> FlAt W S s c -> Calls Tryz.prog 99 #[.agg c.toArray] W (RetT (tl s) W)) :
  Calls Tryz.prog 105 #[.slice A ss.length cap,.func (.func 99) #[] #[]] w (aN (ss.map tl) w):=by
 obtain ⟨i0,hi,hz0,hz1,hz2⟩:=info_parts aR
 have HSL:=aa hsl
 have HDO:=aa hdo
 have h0 : GRow 42 5 TlL w w.heap.size (.slice none 0 0) ((ss.take 0).map tl):=GRow.nil _ _
 have H0:=aa h0
 clear hsl hdo h0
 go_enter Tryz.func105,Tryz.ntmps105
 go_wp2_with fail
 go_loopw [5,10] (fun u i wr => ∃ (j : Nat),i = .int .i64 j /\ j <= ss.length /\ Hid (GRow 42 5 TlL wr w.heap.size u ((ss.take j).map tl)) /\ Below w.heap.size w wr) (fun _ i _ => ss.length - (intOf i).toNat)
 case atStart => exact ⟨0,rfl,Nat.zero_le _,H0,Below.refl _ _⟩
 case round =>
  obtain ⟨j,rfl,hj,hg,hb⟩:=hrel
  have HJ:=aa hj
  have HB:=aa hb
  have HG:=hg
  clear hg hb
  rcases Nat.lt_or_ge j ss.length with hlt | hge
  ·have hx : ss[j]? = some ss[j]:=List.getElem?_eq_getElem hlt
   have z1 : decide ((j : Int) < (ss.length : Int)) = true:=ab (by omega)
   obtain ⟨b,o,c,hA,hS,hcl0,hc,hat⟩:=HSL.out.2.2.2 j ss[j] hx
   obtain rfl : A = some ⟨b,o,none⟩:=hA
   have hcap : ss.length <= cap /\ cap <= 9223372036854775807:=⟨HSL.out.2.1,by have:=HSL.out.2.2.1; unfold maxLen at this; simp at this; omega⟩
   obtain ⟨hcap1,hcap2⟩:=hcap
   obtain ⟨y0,y1,y2,y3,y5,yA,yn,yc,zA,zn,zc,rfl⟩:=aY hat
   have hcw : ∀ o',wr.cell? ⟨b,o',none⟩ = w.cell? ⟨b,o',none⟩:=fun o' => HB.out.cell (p:=⟨b,o',none⟩) hS.2
   have q0 : wr.cell? ⟨b,o + j * 7,none⟩ = some (.int .i64 y0):=(hcw _).trans (hc 0 _ rfl)
   have q1 : wr.cell? ⟨b,o + j * 7 + 1,none⟩ = some (.string y1):=(hcw _).trans (hc 1 _ rfl)
   have q2 : wr.cell? ⟨b,o + j * 7 + 2,none⟩ = some (.string y2):=(hcw _).trans (hc 2 _ rfl)
   have q3 : wr.cell? ⟨b,o + j * 7 + 3,none⟩ = some (.string y3):=(hcw _).trans (hc 3 _ rfl)
   have q4 : wr.cell? ⟨b,o + j * 7 + 4,none⟩ = some (.slice yA yn yc):=(hcw _).trans (hc 4 _ rfl)
   have q5 : wr.cell? ⟨b,o + j * 7 + 5,none⟩ = some (.string y5):=(hcw _).trans (hc 5 _ rfl)
   have q6 : wr.cell? ⟨b,o + j * 7 + 6,none⟩ = some (.slice zA zn zc):=(hcw _).trans (hc 6 _ rfl)
   have hba:=(Below.refl wr.heap.size wr).alloc (Nat.le_refl _) (.cells #[.int .i64 y0,.string y1,.string y2,.string y3,.slice yA yn yc,.string y5,.slice zA zn zc] 25)
   have hball:=HB.out.trans (hba.mono HB.out.size)
   have hbr : b < wr.heap.size:=Nat.lt_of_lt_of_le hS.2 HB.out.size
   obtain ⟨s,hs⟩ : ∃ s,s = ss[j]:=⟨_,rfl⟩
   rw [<- hs] at hat
   have HD:=aa (HDO.out s (by rw [hs]; exact List.getElem_mem hlt) (wr.alloc (.cells #[.int .i64 y0,.string y1,.string y2,.string y3,.slice yA yn yc,.string y5,.slice zA zn zc] 25)) _ hball (cB (T:=S) hball.size (fun x _ hlt => hball.block x hlt) (fun _ h _ => h) _ _ hat))
   have HBA:=aa hba
   have HX:=aa (show ss[j]? = some s by rw [hs]; exact hx)
   obtain ⟨css,hcl,hck,hown,hall⟩:=HG.out
   have hlen : ((ss.take j).map tl).length = j:=by rw [List.length_map,List.length_take]; omega
   rw [hlen] at hown
   clear hx hs hc hat hcw hba hball hS hcl0
   go_wp2_with (first
    | (go_at_call 99; refine HD.out.mono ?_; rintro e w2 ⟨hb2a,cs2,rfl,ht2a⟩; obtain ⟨x0,x1,x2,x3,xA,xn,xc,rfl⟩:=ak ht2a; have hb2:=HBA.out.trans (hb2a.mono HBA.out.size); have ht2:=TlAt.keep (T:=fun x => wr.heap.size <= x) (Nat.le_refl _) (fun _ _ _ => rfl) (fun x hx _ => Nat.le_trans HBA.out.size hx) _ _ ht2a; clear hb2a ht2a; have hown2:=(Off.of_below hb2 []).own hown (by simp); have hs1:=HB.out.size; have hs2:=hb2.size)
    | (at_builtin; refine wpList_append_own_at _ rfl (.tmp 14) (.tmp 18) 40 rfl w.heap.size 42 i0 _ 5 64 Tryz.underlying40 hi hz0 hz1 hz2 rfl (by decide) u5 _ _ rfl (World.ownsRow.alloc (w:=w2) hown2 _) ⟨w2.heap.size,0,none⟩ 1 1 [.int .i64 x0,.bool x1,.int .i64 x2,.string x3,.slice xA xn xc] rfl rfl (World.news_of_block (cs:=#[.int .i64 x0,.bool x1,.int .i64 x2,.string x3,.slice xA xn xc]) (t:=42) (fr:=(0,0)) (heap_alloc_new w2 _)) (by simp [Value.oneCell']) (by unfold maxLen; omega) (by omega) (by simp; omega) ?_; intro v' w3 hown3 hgrow3 hnil3 hat3)
    | fail)
   have ha:=(Below.refl w2.heap.size w2).alloc (Nat.le_refl _) (.cells #[.int .i64 x0,.bool x1,.int .i64 x2,.string x3,.slice xA xn xc] 42)
   have hp:=GRow.push au (w:=wr) (w1:=w2) (w2:=w2.alloc (.cells #[.int .i64 x0,.bool x1,.int .i64 x2,.string x3,.slice xA xn xc] 42)) (d:=tl s) (c:=[.int .i64 x0,.bool x1,.int .i64 x2,.string x3,.slice xA xn xc]) hs1 hcl hck (by rw [hlen]; exact hown) hall (fun x _ hlt => hb2.block x hlt) hs2 rfl ht2 ha (by rw [hlen]; exact hown3) hgrow3 hat3
   have e1 : (ss.take j).map tl ++ [tl s] = (ss.take (j + 1)).map tl:=by rw [cw HX.out,List.map_append]; rfl
   rw [e1] at hp
   refine ⟨⟨j + 1,by simp,by omega,hp,?_⟩,?_⟩
   ·have h1:=HB.out.trans (hb2.mono hs1)
    have h2:=h1.alloc h1.size (.cells #[.int .i64 x0,.bool x1,.int .i64 x2,.string x3,.slice xA xn xc] 42)
    have h3 : Off [] w (w2.alloc (.cells #[.int .i64 x0,.bool x1,.int .i64 x2,.string x3,.slice xA xn xc] 42)):=Off.of_below h2 []
    exact (h3.grown hgrow3 (fun g hg => .inr (hown.lt g hg).1)).below (Nat.le_refl _) (by simp)
   ·show ss.length - ((j : Int) + 1).toNat < ss.length - (j : Int).toNat
    omega
  ·have z1 : decide ((j : Int) < (ss.length : Int)) = false:=ae (by omega)
   obtain rfl : j = ss.length:=by omega
   obtain ⟨q,rfl,hq⟩:=GRow.row au HG.out
   rw [List.take_length] at hq
   have HQ:=aa hq
   clear hq
   go_wp2_with fail
   go_ret
   exact ⟨HB.out,q,rfl,HQ.out⟩
theorem TlAt.up {w w' : World} {B B' : Nat} {t : Tl} {cs : Array Value} (h : TlAt w (fun x => B' <= x) t cs) (hb : Below w.heap.size w w') (hB : B <= B') : TlAt w' (fun x => B <= x) t cs :=
 TlAt.keep hb.size (fun x _ hlt => hb.block x hlt) (fun x hx _ => Nat.le_trans hB hx) _ _ h
theorem aw {w : World} {S : Nat -> Prop} {c g : Int} {k : Bool} {s : ByteArray} {cs : Array Value} (h : TlAt w S (.mk c k g s []) cs) : ∀ W T,TlAt W T (.mk c k g s []) cs:=by
 intro W T
 unfold TlAt at h |-
 obtain ⟨A,cap,h1,h2,h3,h4,h5,-⟩:=h
 exact ⟨A,cap,h1,h2,h3,h4,h5,by unfold KsAt; trivial⟩
theorem GRow.leaves {w : World} {B : Nat} {v : Value} {css : List (List Value)} {ts : List Tl} (hown : w.ownsRow B 42 5 v ts.length css.flatten) (hl : css.length = ts.length) (hk : ∀ c ∈ css,c.length = 5)
  (hf : ∀ (i : Nat) (t : Tl) (c : List Value),ts[i]? = some t -> css[i]? = some c -> ∀ W S,TlAt W S t c.toArray) : TGrow w B v ts:=⟨css,hl,hk,hown,fun i d c hd hc => hf i d c hd hc _ _⟩
theorem GRow.leaf1 {w : World} {B : Nat} {v : Value} {t : Tl} {c : List Value} (hown : w.ownsRow B 42 5 v 1 c) (hl : c.length = 5) (ht : ∀ W S,TlAt W S t c.toArray) : TGrow w B v [t] :=
 GRow.leaves (css:=[c]) (ts:=[t]) (by simpa using hown) rfl (by simpa using hl) (fun i d x hd hx => by
  cases i with
  | zero =>
   obtain rfl : t = d:=by simpa using hd
   obtain rfl : c = x:=by simpa using hx
   exact ht
  | succ i => simp at hd)
theorem GRow.leaf2 {w : World} {B : Nat} {v : Value} {t t' : Tl} {c c' : List Value} (hown : w.ownsRow B 42 5 v 2 (c ++ c')) (hl : c.length = 5) (hl' : c'.length = 5) (ht : ∀ W S,TlAt W S t c.toArray) (ht' : ∀ W S,TlAt W S t' c'.toArray) : TGrow w B v [t,t'] :=
 GRow.leaves (css:=[c,c']) (ts:=[t,t']) (by simpa using hown) rfl (by intro x hx; simp at hx; rcases hx with rfl | rfl <;> assumption) (fun i d x hd hx => by
  match i with
  | 0 =>
   obtain rfl : t = d:=by simpa using hd
   obtain rfl : c = x:=by simpa using hx
   exact ht
  | 1 =>
   obtain rfl : t' = d:=by simpa using hd
   obtain rfl : c' = x:=by simpa using hx
   exact ht'
  | i + 2 => simp at hd)
theorem grow_at {w : World} {B n cap : Nat} {A : Option Addr} {ts : List Tl} (c g : Int) (h : TGrow w B (.slice A n cap) ts) (hc : (Lit.int .i64 c).wf = true) (hg : (Lit.int .i64 g).wf = true) :
  TlAt w (fun x => B <= x) (.mk c true g ⟨#[]⟩ ts) #[.int .i64 c,.bool true,.int .i64 g,.string ⟨#[]⟩,.slice A n cap]:=by
 obtain ⟨q,e,hq⟩:=GRow.row au h
 rw [e]
 exact bX c g true ⟨#[]⟩ hq hc hg (Nat.zero_le _)
def All2 {α β : Type} (R : α -> β -> Prop) : List α -> List β -> Prop
 | [],[] => True
 | a :: l1,b :: bs => R a b /\ All2 R l1 bs
 | _,_ => False
theorem All2.len {α β : Type} {R : α -> β -> Prop} : ∀ {l : List α} {k : List β},All2 R l k -> l.length = k.length
 | [],[],_ => rfl
 | a :: l1,b :: bs,h => by simp [h.2.len]
 | [],_ :: _,h => h.elim
 | _ :: _,[],h => h.elim
theorem All2.get {α β : Type} {R : α -> β -> Prop} : ∀ {l : List α} {k : List β},All2 R l k -> ∀ (i : Nat) (a : α) (b : β),l[i]? = some a -> k[i]? = some b -> R a b
 | [],_,_,i,a,b,ha,_ => by simp at ha
 | x :: l1,y :: bs,h,i,a,b,ha,hb => by
  cases i with
  | zero =>
   obtain rfl : x = a:=by simpa using ha
   obtain rfl : y = b:=by simpa using hb
   exact h.1
  | succ i => exact h.2.get i a b (by simpa using ha) (by simpa using hb)
 | _ :: _,[],h,_,_,_,_,_ => h.elim
theorem All2.right {α β : Type} {R : α -> β -> Prop} {P : β -> Prop} (hP : ∀ a b,R a b -> P b) : ∀ {l : List α} {k : List β},All2 R l k -> ∀ b ∈ k,P b
 | [],[],_,b,hb => by cases hb
 | a :: l1,c :: bs,h,b,hb => by
  rcases List.mem_cons.1 hb with rfl | hb
  ·exact hP _ _ h.1
  ·exact h.2.right hP b hb
 | [],_ :: _,h,_,_ => h.elim
 | _ :: _,[],h,_,_ => h.elim
def CellsT (w : World) (B : Nat) (t : Tl) (c : List Value) : Prop:=c.length = 5 /\ TlAt w (fun x => B <= x) t c.toArray
theorem fg {w8 : World} {B n : Nat} {ts : List Tl} (css : List (List Value)) (cells : Array Value) (hB : B <= w8.heap.size) (hc : cells.toList = css.flatten) (hA : All2 (CellsT w8 B) ts css) (hn : n = ts.length) (hm : n <= 100) :
  RowOf 5 TlL (w8.alloc (.cells cells 42)) (fun x => B <= x) ⟨some ⟨w8.heap.size,0,none⟩,n,n⟩ ts:=by
 have ha:=(Below.refl w8.heap.size w8).alloc (Nat.le_refl _) (.cells cells 42)
 subst hn
 refine row_block css ts (Bk.new w8 _ cells) hc hB hA.len.symm (by unfold maxLen; omega) (fun c hx => hA.right (P:=fun c => c.length = 5) (fun _ _ h => h.1) c hx) (fun i t c ht hx => ?_)
 exact TlAt.up (hA.get i t c ht hx).2 ha (Nat.le_refl _)
theorem dJ {w w8 : World} {n : Nat} {ts : List Tl} (css : List (List Value)) (cells : Array Value) (hb : Below w.heap.size w w8) (hc : cells.toList = css.flatten) (hA : All2 (CellsT w8 w.heap.size) ts css) (hn : n = ts.length) (hm : n <= 100) :
  aN ts w (.returned (.slice (some ⟨w8.heap.size,0,none⟩) n n)) (w8.alloc (.cells cells 42)) :=
 ⟨hb.alloc hb.size _,⟨some ⟨w8.heap.size,0,none⟩,n,n⟩,rfl,fg css cells hb.size hc hA hn hm⟩
theorem eF {w w6 w7 : World} {B g gg bo cap7 n7 k : Nat} {c t : Int} {v : Value} {T : TypeId} {cs : Array Value} {xs : List Value} {o : Obj} (hb6 : Below B w w6) (hBw : B <= w.heap.size) (hg6 : Bk w6 g 42 #[.int .i64 c,.bool true,.int .i64 t,.string ⟨#[]⟩,v]) (hk6 : Bk w6 k T cs)
  (hgB : B <= g) (hv : v.ownBlock = some bo) (hbg : bo ≠ g) (hbB : B <= bo) (hkg : k ≠ g) (hkb : k ≠ bo) (hown7 : w7.ownsRow B 42 5 (.slice (some ⟨gg,0,none⟩) n7 cap7) n7 xs) (hgr : (w6.alloc o).grownBy w7 v.ownBlock) (hat : v.ownBlock = some gg \/ gg = w6.heap.size + 1) :
  Below B w (w7.setCell ⟨g,4,none⟩ (.slice (some ⟨gg,0,none⟩) n7 cap7)) /\ Bk (w7.setCell ⟨g,4,none⟩ (.slice (some ⟨gg,0,none⟩) n7 cap7)) g 42 #[.int .i64 c,.bool true,.int .i64 t,.string ⟨#[]⟩,.slice (some ⟨gg,0,none⟩) n7 cap7] ∧
   Bk (w7.setCell ⟨g,4,none⟩ (.slice (some ⟨gg,0,none⟩) n7 cap7)) k T cs /\ (w7.setCell ⟨g,4,none⟩ (.slice (some ⟨gg,0,none⟩) n7 cap7)).ownsRow B 42 5 (.slice (some ⟨gg,0,none⟩) n7 cap7) n7 xs:=by
 have hl:=hg6.lt
 have hlk:=hk6.lt
 have hs:=hb6.size
 have hgg : gg ≠ g:=by
  rcases hat with h | h
  ·rw [hv] at h; injection h with h; omega
  ·omega
 have hg7 : Bk w7 g 42 _:=Bk.keep (hg6.alloc o) (hgr.block g (by simp; omega) (by rw [hv]; simp; omega))
 have hk7 : Bk w7 k T cs:=Bk.keep (hk6.alloc o) (hgr.block k (by simp; omega) (by rw [hv]; simp; omega))
 refine ⟨?_,?_,hk7.far (p:=⟨g,4,none⟩) hkg _,((Off.refl [g] w7).setCell (p:=⟨g,4,none⟩) (.inl (by simp)) _).own hown7 (by intro x hx; simp [Value.ownBlock] at hx; subst hx; simpa using hgg)⟩
 ·exact ((hb6.alloc (by omega) o).grown hgr (by simp; omega) (fun x hx => by rw [hv] at hx; injection hx with hx; omega)).setCell hgB _
 ·simpa using hg7.put 4 (.slice (some ⟨gg,0,none⟩) n7 cap7)
theorem bind_t (M : Ms) (m : MC) (S : Nat -> Prop) (w : World) (h : MsAt w S M m) (hv1 : -9223372036854775808 <= M.version) (hv2 : M.version <= 9223372036854775807) :
  Calls Tryz.prog 75 #[.agg m.cells] w (aN M.bindT w):=by
 obtain ⟨i0,hi,iz0,iz1,iz2⟩:=info_parts aR
 obtain ⟨f,at',li,mo,de,co,hm,⟨hz1,hz2,hz3,hz4,-,-⟩,-⟩:=h
 obtain ⟨cs,hcs⟩ : ∃ cs,cs = m.cells:=⟨_,rfl⟩
 obtain ⟨sasl,hsasl⟩ : ∃ b,b = M.sasl:=⟨_,rfl⟩
 obtain ⟨has,hhas⟩ : ∃ b,b = M.has:=⟨_,rfl⟩
 have c2 : cs[2]? = some (.int .i64 M.version):=by rw [hcs,hm]; rfl
 have c3 : cs[3]? = some (.string M.name):=by rw [hcs,hm]; rfl
 have c4 : cs[4]? = some (.bool sasl):=by rw [hcs,hm,hsasl]; rfl
 have c5 : cs[5]? = some (.string M.secret):=by rw [hcs,hm]; rfl
 have c6 : cs[6]? = some (.string M.kind):=by rw [hcs,hm]; rfl
 have c7 : cs[7]? = some (.bool has):=by rw [hcs,hm,hhas]; rfl
 have c8 : cs[8]? = some (.string M.value):=by rw [hcs,hm]; rfl
 rw [<- hcs]
 have hbk:=Bk.new w 30 cs
 have HBK:=aa hbk
 have HB:=aa ((Below.refl w.heap.size w).alloc (Nat.le_refl _) (.cells cs 30))
 have q5 : (w.alloc (.cells cs 30)).cell? ⟨w.heap.size,5,none⟩ = some (.string M.secret):=(hbk.cell 5).trans c5
 have HZ1:=aa hz1
 have HZ2:=aa hz2
 have HZ3:=aa hz3
 have HZ4:=aa hz4
 have C2:=aa c2
 have C3:=aa c3
 have C4:=aa c4
 have C6:=aa c6
 have C7:=aa c7
 have C8:=aa c8
 have HHAS:=aa hhas
 have HSASL:=aa hsasl
 clear hm hcs hbk hz1 hz2 hz3 hz4 c2 c3 c4 c5 c6 c7 c8 hsasl hhas
 go_enter Tryz.func75,Tryz.ntmps75
 go_upto_if 8 with (first
  | (go_at_call 84; refine (ee 0 M.secret _ rfl HZ2.out).mono ?_; rintro e w2 ⟨hb2,cs2,rfl,ht2⟩; obtain ⟨x0,x1,x2,x3,xA,xn,xc,rfl⟩:=ak ht2; have hbk2:=af HBK.out hb2; have HBK2:=aa hbk2; have q4 : w2.cell? ⟨w.heap.size,4,none⟩ = some (.bool sasl):=(hbk2.cell 4).trans C4.out; have hlt2:=hbk2.lt; have HT2:=aa (aw ht2); have HB2:=aa (HB.out.trans (hb2.mono HB.out.size)); clear ht2 hb2 hbk2)
  | fail)
 go_cut [3] from 9 to 23 (fun v wx => ∃ (g : Nat) (y0 : Int) (y1 : Bool) (y2 : Int) (y3 : ByteArray) (yA : Option Addr) (yn yc : Nat),v = .pointer (some ⟨g,0,none⟩) /\ Below w.heap.size w wx /\ Bk wx w.heap.size 30 cs /\ Bk wx g 42 #[.int .i64 y0,.bool y1,.int .i64 y2,.string y3,.slice yA yn yc] ∧
  TlAt wx (fun x => w.heap.size <= x) (if sasl then .mk 2 true 3 ⟨#[]⟩ (tstr M.kind :: (if has then [tstr M.value] else [])) else town 0 M.secret) #[.int .i64 y0,.bool y1,.int .i64 y2,.string y3,.slice yA yn yc])
 case first =>
  have HBC:=aa (HB2.out.alloc HB2.out.size (.cells #[.int .i64 x0,.bool x1,.int .i64 x2,.string x3,.slice xA xn xc] 42))
  have HKC:=aa (HBK2.out.alloc (.cells #[.int .i64 x0,.bool x1,.int .i64 x2,.string x3,.slice xA xn xc] 42))
  have HGC:=aa (Bk.new w2 42 #[.int .i64 x0,.bool x1,.int .i64 x2,.string x3,.slice xA xn xc])
  cases sasl with
  | false =>
   go_wp2_with fail
   go_meet
   exact ⟨w2.heap.size,x0,x1,x2,x3,xA,xn,xc,rfl,HBC.out,HKC.out,HGC.out,HT2.out _ _⟩
  | true =>
   have q6:=(HKC.out.cell 6).trans C6.out
   cases has with
   | false =>
    go_wp2_with (first
     | (go_at_call 52; refine (aX M.kind _ HZ3.out).mono ?_; rintro e w4 ⟨hb4,cs4,rfl,ht4⟩; obtain ⟨z0,z1,z2,z3,zA,zn,zc,rfl⟩:=ak ht4; have hg4:=af HGC.out hb4; have HGA:=aa (hg4.alloc (.cells #[.int .i64 z0,.bool z1,.int .i64 z2,.string z3,.slice zA zn zc] 42)); have HKA:=aa ((af HKC.out hb4).alloc (.cells #[.int .i64 z0,.bool z1,.int .i64 z2,.string z3,.slice zA zn zc] 42)); have HT4:=aa (aw ht4); have hb04:=HBC.out.trans (hb4.mono HBC.out.size); have HB4:=aa (hb04.alloc hb04.size (.cells #[.int .i64 z0,.bool z1,.int .i64 z2,.string z3,.slice zA zn zc] 42)); have hg4lt:=hg4.lt; have HLIT:=aa (World.ownsRow_lit (base:=w.heap.size) (e:=42) (size:=5) w4 #[.int .i64 z0,.bool z1,.int .i64 z2,.string z3,.slice zA zn zc] 1 hb04.size (by unfold maxLen; omega) rfl); clear hb4 ht4 hb04 hg4)
     | (refine ap rfl 42 (.tmp 3) (.tmp 13) rfl w2.heap.size rfl #[.int .i64 2,.bool true,.int .i64 3,.string ⟨#[]⟩,.slice (some ⟨w4.heap.size,0,none⟩) 1 1] rfl 42 #[.int .i64 x0,.bool x1,.int .i64 x2,.string x3,.slice xA xn xc] HGA.out rfl (by kernel_rfl) (by simp [Value.oneCell']) (fun w5 hbk5 hof5 => ?_); have HG5:=aa hbk5; have HOF5:=aa hof5; have HK5:=aa (hof5.bk HKA.out (by simp; omega)); have q7:=(HK5.out.cell 7).trans C7.out; have hlt5:=HK5.out.lt)
     | fail)
    go_meet
    have hown5:=HOF5.out.own HLIT.out (by intro x hx; simp [Value.ownBlock] at hx; subst hx; simp; omega)
    exact ⟨w2.heap.size,2,true,3,⟨#[]⟩,_,_,_,rfl,HOF5.out.below HB4.out.size (by simp; exact HB2.out.size) |> HB4.out.trans,HK5.out,HG5.out,grow_at 2 3 (GRow.leaf1 hown5 rfl HT4.out) rfl rfl⟩
   | true =>
    go_wp2_with (first
     | (go_at_call 52; refine (aX M.kind _ HZ3.out).mono ?_; rintro e w4 ⟨hb4,cs4,rfl,ht4⟩; obtain ⟨z0,z1,z2,z3,zA,zn,zc,rfl⟩:=ak ht4; have hg4:=af HGC.out hb4; have HGA:=aa (hg4.alloc (.cells #[.int .i64 z0,.bool z1,.int .i64 z2,.string z3,.slice zA zn zc] 42)); have HKA:=aa ((af HKC.out hb4).alloc (.cells #[.int .i64 z0,.bool z1,.int .i64 z2,.string z3,.slice zA zn zc] 42)); have HT4:=aa (aw ht4); have hb04:=HBC.out.trans (hb4.mono HBC.out.size); have HB4:=aa (hb04.alloc hb04.size (.cells #[.int .i64 z0,.bool z1,.int .i64 z2,.string z3,.slice zA zn zc] 42)); have hg4lt:=hg4.lt; have HLIT:=aa (World.ownsRow_lit (base:=w.heap.size) (e:=42) (size:=5) w4 #[.int .i64 z0,.bool z1,.int .i64 z2,.string z3,.slice zA zn zc] 1 hb04.size (by unfold maxLen; omega) rfl); clear hb4 ht4 hb04 hg4)
     | (refine ap rfl 42 (.tmp 3) (.tmp 13) rfl w2.heap.size rfl #[.int .i64 2,.bool true,.int .i64 3,.string ⟨#[]⟩,.slice (some ⟨w4.heap.size,0,none⟩) 1 1] rfl 42 #[.int .i64 x0,.bool x1,.int .i64 x2,.string x3,.slice xA xn xc] HGA.out rfl (by kernel_rfl) (by simp [Value.oneCell']) (fun w5 hbk5 hof5 => ?_); have HG5:=aa hbk5; have HOF5:=aa hof5; have HK5:=aa (hof5.bk HKA.out (by simp; omega)); have q7:=(HK5.out.cell 7).trans C7.out; have hlt5:=HK5.out.lt)
     | fail)
    have u1 : w5.cell? ⟨w2.heap.size,4,none⟩ = some (.slice (some ⟨w4.heap.size,0,none⟩) 1 1):=HG5.out.cell 4
    have u2:=HG5.out.frozen 4
    have u3:=HG5.out.lt
    have q8:=(HK5.out.cell 8).trans C8.out
    have hown5:=HOF5.out.own HLIT.out (by intro x hx; simp [Value.ownBlock] at hx; subst hx; simp; omega)
    have HOWN5:=aa hown5
    have hs45:=HOF5.out.size
    have hws:=HB4.out.size
    have hne : ¬ (w4.heap.size = w2.heap.size):=by omega
    have hws4 : w4.heap.size < w5.heap.size:=by simp at hs45; omega
    clear hown5 hs45
    go_region_law ((first
     | (go_simp; go_at_call 52; refine (aX M.value _ HZ4.out).mono ?_; rintro e w6 ⟨hb6,cs6,rfl,ht6⟩; obtain ⟨r0,r1,r2,r3,rA,rn,rc,rfl⟩:=ak ht6; have hg6:=af HG5.out.drew hb6; have HG6:=aa hg6; have HK6:=aa (af HK5.out.drew hb6); have HT6:=aa (aw ht6); have y1 : w6.cell? ⟨w2.heap.size,4,none⟩ = some (.slice (some ⟨w4.heap.size,0,none⟩) 1 1):=hg6.cell 4; have y2:=hg6.frozen 4; have y3:=hg6.lt; have HB6:=aa hb6; have hown6:=(Off.of_below hb6 []).own (World.ownsRow.drew HOWN5.out) (by simp); have hs6:=hb6.size; clear hg6)
     | (refine step_append_lies _ ?g1 (.tmp 17) (.tmp 21) 40 ?g2 w.heap.size 42 i0 _ 5 64 Tryz.underlying40 hi iz0 iz1 iz2 ?q1 ?q2 (.slice (some ⟨w4.heap.size,0,none⟩) 1 1) 1 [.int .i64 z0,.bool z1,.int .i64 z2,.string z3,.slice zA zn zc] ?q3 (hown6.alloc _) ⟨w6.heap.size,0,none⟩ 1 1 [.int .i64 r0,.bool r1,.int .i64 r2,.string r3,.slice rA rn rc] ?q5 ?q6 ?q7 ?q8 ?q9 ?q10 ?q11 ?q12 (w6.heap.size + 1) ?q13 ?_; (case g1 => (rfl)); (case g2 => (rfl)); (case q1 => (rfl)); (case q2 => (omega)); (case q3 => (rfl)); (case q5 => (rfl)); (case q6 => (rfl)); (case q7 => (exact World.news_of_block (cs:=#[.int .i64 r0,.bool r1,.int .i64 r2,.string r3,.slice rA rn rc]) (heap_alloc_new w6 _))); (case q8 => (simp [Value.oneCell'])); (case q9 => (omega)); (case q10 => (unfold maxLen; omega)); (case q11 => (omega)); (case q12 => (simp at hs6 |-; omega)); (case q13 => (simp)); intro gg cap7 w7 hown7 hgrow7 hat7 hlt7; have hkg:=bC ⟨(aK y1 y2 y3 _).1,(aK y1 y2 y3 _).2⟩ hgrow7 (by simp [Value.ownBlock]; omega) (by simp; omega); have hkg1:=hkg.1; have hkg2:=hkg.2)
     | fail))
    all_goals
     have hb5:=HB4.out.trans (HOF5.out.below HB4.out.size (by simp; exact HB2.out.size))
     have hb6':=hb5.drew.trans (HB6.out.mono hb5.size)
     have HN:=aa (eF (bo:=w4.heap.size) hb6' (Nat.le_refl _) HG6.out HK6.out (HB2.out.size) rfl hne (by omega) (by omega) (by omega) hown7 hgrow7 hat7)
     clear hown7 hgrow7 hat7 hkg hkg1 hkg2 hb5 hb6' hown6 y1 y2 y3 u1 u2 u3
     go_wp2_with fail
     go_meet
     exact ⟨w2.heap.size,2,true,3,⟨#[]⟩,_,_,_,rfl,HN.out.1,HN.out.2.2.1,HN.out.2.1,grow_at 2 3 (GRow.leaf2 HN.out.2.2.2 rfl rfl HT4.out HT6.out) rfl rfl⟩
 case rest =>
  obtain ⟨g,y0,y1,y2,y3,yA,yn,yc,rfl,hbx,hkx,hgx,htx⟩:=hcut
  have HBX:=aa hbx
  have HTX:=aa htx
  have HKX:=aa hkx
  have HNM:=aa (fun W => eO 2 M.version rfl W hv1 hv2)
  have HBR:=aa (Below.refl wc.heap.size wc).drew
  have HKS:=aa fun (W : World) (hb : Below wc.heap.size wc W) => (show W.cell? ⟨w.heap.size,2,none⟩ = some (.int .i64 M.version) /\ W.cell? ⟨w.heap.size,3,none⟩ = some (.string M.name) /\ W.cell? ⟨g,0,none⟩ = some (.int .i64 y0) /\ W.cell? ⟨g,1,none⟩ = some (.bool y1) /\ W.cell? ⟨g,2,none⟩ = some (.int .i64 y2) /\ W.cell? ⟨g,3,none⟩ = some (.string y3) /\ W.cell? ⟨g,4,none⟩ = some (.slice yA yn yc) /\ Below wc.heap.size wc W from
   have h5:=(af hgx hb)
   ⟨((af hkx hb).cell 2).trans C2.out,((af hkx hb).cell 3).trans C3.out,h5.cell 0,h5.cell 1,h5.cell 2,h5.cell 3,h5.cell 4,hb⟩)
  clear hbx htx hkx hgx
  go_wp2_with fail
  go_region_held3 (fun W => W.cell? ⟨w.heap.size,2,none⟩ = some (.int .i64 M.version) /\ W.cell? ⟨w.heap.size,3,none⟩ = some (.string M.name) /\ W.cell? ⟨g,0,none⟩ = some (.int .i64 y0) /\ W.cell? ⟨g,1,none⟩ = some (.bool y1) /\ W.cell? ⟨g,2,none⟩ = some (.int .i64 y2) /\ W.cell? ⟨g,3,none⟩ = some (.string y3) /\ W.cell? ⟨g,4,none⟩ = some (.slice yA yn yc) /\ Below wc.heap.size wc W)
   (first | exact HKS.out _ HBR.out | exact HKS.out _ (by assumption) | exact HKS.out _ (bel1 (by assumption) _))
   (first
    | (go_at_call 19; refine (HNM.out _).mono ?_; rintro e w7 ⟨hb7,cs7,rfl,ht7⟩; obtain ⟨n0,n1,n2,n3,nA,nn,nc,rfl⟩:=ak ht7; have hn7:=ag HBR.out hb7)
    | (go_at_call 52; refine (aX M.name _ HZ1.out).mono ?_; rintro e w8 ⟨hb8,cs8,rfl,ht8⟩; obtain ⟨k0,k1,k2,k3,kA,kn,kc,rfl⟩:=ak ht8; have hn8:=ag hn7 hb8)
    | fail)
  all_goals
   have h0:=HBX.out.trans (hn8.mono HBX.out.size)
   have hx7:=HBX.out.trans (hn7.mono HBX.out.size)
   have HP:=aa (dJ (w:=w) (w8:=w8) (n:=3) (ts:=M.bindT) [[.int .i64 n0,.bool n1,.int .i64 n2,.string n3,.slice nA nn nc],[.int .i64 k0,.bool k1,.int .i64 k2,.string k3,.slice kA kn kc],[.int .i64 y0,.bool y1,.int .i64 y2,.string y3,.slice yA yn yc]] #[.int .i64 n0,.bool n1,.int .i64 n2,.string n3,.slice nA nn nc,.int .i64 k0,.bool k1,.int .i64 k2,.string k3,.slice kA kn kc,.int .i64 y0,.bool y1,.int .i64 y2,.string y3,.slice yA yn yc] h0 rfl
    (by
     unfold Ms.bindT
     rw [<- HSASL.out,<- HHAS.out]
     exact ⟨⟨rfl,TlAt.up (ht7.up hb8 (HBX.out.size)) (Below.refl _ _) (Nat.le_refl _)⟩,⟨rfl,ht8.up (Below.refl _ _) hx7.size⟩,⟨rfl,HTX.out.up hn8 (Nat.le_refl _)⟩,trivial⟩) rfl (by omega))
   clear hn8 hn7 ht7 ht8 hb7 hb8 h0 hx7
   go_wp2_with fail
   go_ret
   exact HP.out
theorem bool_t (q : Bool) (w : World) : Calls Tryz.prog 53 #[.int .i64 0,.int .i64 1,.bool q] w (RetT (bx q) w):=by
 refine (ofBool_any 0 1 q w).mono ?_
 rintro e w' ⟨rfl,hb⟩
 refine ⟨hb,_,rfl,?_⟩
 cases q with
 | true => exact ew 0 1 false ⟨#[255]⟩ w' _ rfl rfl (by show 1 <= _; unfold maxLen; omega)
 | false => exact ew 0 1 false ⟨#[0]⟩ w' _ rfl rfl (by show 1 <= _; unfold maxLen; omega)
theorem cX {w : World} {S : Nat -> Prop} {q : Rw} {ss : List ByteArray} (h : SRow w S q ss) : Sl w q.A (ss.map Value.string):=by
 intro j u hu
 rw [List.getElem?_map] at hu
 cases hs : ss[j]? with
 | none => rw [hs] at hu; cases hu
 | some s =>
  rw [hs] at hu
  injection hu with hu
  subst hu
  obtain ⟨b,o,c,h1,h2,h3,h4,h5,h6⟩:=h.2.2.2 j s hs
  subst h5
  have:=h4 0 _ rfl
  rw [Nat.mul_one,Nat.add_zero] at this
  exact ⟨b,o,h1,h2.2,this⟩
theorem eh {w : World} {S : Nat -> Prop} {q : Rw} {ss : List ByteArray} (h : SRow w S q ss) : ∀ s ∈ ss,s.size <= maxLen:=by
 intro s hs
 obtain ⟨j,hj,rfl⟩:=List.getElem_of_mem hs
 obtain ⟨b,o,c,h1,h2,h3,h4,h5,h6⟩:=h.2.2.2 j _ (List.getElem?_eq_getElem hj)
 exact h6
theorem of_row (q : Rw) (ss : List ByteArray) (tl : ByteArray -> Tl) (S : Nat -> Prop) (w : World) (h : SRow w S q ss) (hn : ss.length <= 1000000) (hdo : ∀ s ∈ ss,∀ W,Calls Tryz.prog 52 #[.string s] W (RetT (tl s) W)) :
  Calls Tryz.prog 82 #[.slice q.A q.n q.c,.func (.func 52) #[] #[]] w (aN (ss.map tl) w):=by
 have:=of_str q.A q.c ss tl w (cX h) hn hdo
 rw [<- h.1] at this
 exact this
def in64 (n : Int) : Prop:=-9223372036854775808 <= n /\ n <= 9223372036854775807
theorem search_t (M : Ms) (m : MC) (S : Nat -> Prop) (w : World) (h : MsAt w S M m) (hl : M.attrs.length <= 1000000) (h_scope : in64 M.scope) (h_deref : in64 M.deref) (h_size : in64 M.size) (h_time : in64 M.time)
  (hfil : ∀ W c,FlAt W S M.filter c -> Calls Tryz.prog 99 #[.agg c.toArray] W (RetT (a8 M.filter) W)) :
  Calls Tryz.prog 76 #[.agg m.cells] w (aN M.seaT w):=by
 obtain ⟨f,at',li,mo,de,co,hm,⟨hz_name,hz_secret,hz_kind,hz_value,hz_text,hz_rdn⟩,hfl,hat,hli,hmo,hde,hco⟩:=h
 obtain ⟨cs,hcs⟩ : ∃ cs,cs = m.cells:=⟨_,rfl⟩
 have c3 : cs[3]? = some (.string M.name):=by rw [hcs,hm]; rfl
 have c11 : cs[11]? = some (.int .i64 M.scope):=by rw [hcs,hm]; rfl
 have c12 : cs[12]? = some (.int .i64 M.deref):=by rw [hcs,hm]; rfl
 have c13 : cs[13]? = some (.int .i64 M.size):=by rw [hcs,hm]; rfl
 have c14 : cs[14]? = some (.int .i64 M.time):=by rw [hcs,hm]; rfl
 have c15 : cs[15]? = some (.bool M.types):=by rw [hcs,hm]; rfl
 have c23 : cs[23]? = some (.slice at'.A at'.n at'.c):=by rw [hcs,hm]; rfl
 have c16 : cs[16]? = some (.int .i64 f.kind):=by rw [hcs,hm]; rfl
 have c17 : cs[17]? = some (.string f.attr):=by rw [hcs,hm]; rfl
 have c18 : cs[18]? = some (.string f.value):=by rw [hcs,hm]; rfl
 have c19 : cs[19]? = some (.string f.first):=by rw [hcs,hm]; rfl
 have c20 : cs[20]? = some (.slice f.any.A f.any.n f.any.c):=by rw [hcs,hm]; rfl
 have c21 : cs[21]? = some (.string f.last):=by rw [hcs,hm]; rfl
 have c22 : cs[22]? = some (.slice f.kids.A f.kids.n f.kids.c):=by rw [hcs,hm]; rfl
 rw [<- hcs]
 obtain ⟨wc,hwc⟩ : ∃ W,W = w.alloc (.cells cs 30):=⟨_,rfl⟩
 have hbx : Below w.heap.size w wc:=by rw [hwc]; exact (Below.refl w.heap.size w).alloc (Nat.le_refl _) _
 have hkx : Bk wc w.heap.size 30 cs:=by rw [hwc]; exact Bk.new w _ cs
 have HBX:=aa hbx
 have HKX:=aa hkx
 have HZ_name:=aa hz_name
 have HZ_secret:=aa hz_secret
 have HZ_kind:=aa hz_kind
 have HZ_value:=aa hz_value
 have HZ_text:=aa hz_text
 have HZ_rdn:=aa hz_rdn
 have C3:=aa c3
 have C11:=aa c11
 have C12:=aa c12
 have C13:=aa c13
 have C14:=aa c14
 have C15:=aa c15
 have C23:=aa c23
 have C16:=aa c16
 have C17:=aa c17
 have C18:=aa c18
 have C19:=aa c19
 have C20:=aa c20
 have C21:=aa c21
 have C22:=aa c22
 have HT_name:=aa fun (W : World) => aX M.name W HZ_name.out
 have HN_scope:=aa fun (W : World) => eO 10 M.scope rfl W h_scope.1 h_scope.2
 have HN_deref:=aa fun (W : World) => eO 10 M.deref rfl W h_deref.1 h_deref.2
 have HN_size:=aa fun (W : World) => eO 2 M.size rfl W h_size.1 h_size.2
 have HN_time:=aa fun (W : World) => eO 2 M.time rfl W h_time.1 h_time.2
 have HB_types:=aa fun (W : World) => bool_t M.types W
 have HFIL:=aa fun (W : World) (hb : Below wc.heap.size wc W) => hfil W f.cells (FlAt.keep (T:=S) (hbx.trans (hb.mono hbx.size)).size (fun x _ hlt => (hbx.trans (hb.mono hbx.size)).block x hlt) (fun _ h _ => h) _ _ hfl)
 have HOF:=aa fun (W : World) (hb : Below wc.heap.size wc W) => of_row at' M.attrs tstr S W (RowOf.keep al hat (T:=S) (hbx.trans (hb.mono hbx.size)).size (fun x _ hlt => (hbx.trans (hb.mono hbx.size)).block x hlt) (fun _ h _ => h)) hl (fun s hs W' => aX s W' (eh hat s hs))
 have HBR:=aa (Below.refl wc.heap.size wc).drew
 have HKS:=aa fun (W : World) (hb : Below wc.heap.size wc W) => (show W.cell? ⟨w.heap.size,3,none⟩ = some (.string M.name) /\ W.cell? ⟨w.heap.size,11,none⟩ = some (.int .i64 M.scope) /\ W.cell? ⟨w.heap.size,12,none⟩ = some (.int .i64 M.deref) /\ W.cell? ⟨w.heap.size,13,none⟩ = some (.int .i64 M.size) /\ W.cell? ⟨w.heap.size,14,none⟩ = some (.int .i64 M.time) /\ W.cell? ⟨w.heap.size,15,none⟩ = some (.bool M.types) /\ W.cell? ⟨w.heap.size,23,none⟩ = some (.slice at'.A at'.n at'.c) /\ W.cell? ⟨w.heap.size,16,none⟩ = some (.int .i64 f.kind) /\ W.cell? ⟨w.heap.size,17,none⟩ = some (.string f.attr) /\ W.cell? ⟨w.heap.size,18,none⟩ = some (.string f.value) /\ W.cell? ⟨w.heap.size,19,none⟩ = some (.string f.first) /\ W.cell? ⟨w.heap.size,20,none⟩ = some (.slice f.any.A f.any.n f.any.c) /\ W.cell? ⟨w.heap.size,21,none⟩ = some (.string f.last) /\ W.cell? ⟨w.heap.size,22,none⟩ = some (.slice f.kids.A f.kids.n f.kids.c) /\ Below wc.heap.size wc W from
  ⟨((af hkx hb).cell 3).trans C3.out,((af hkx hb).cell 11).trans C11.out,((af hkx hb).cell 12).trans C12.out,((af hkx hb).cell 13).trans C13.out,((af hkx hb).cell 14).trans C14.out,((af hkx hb).cell 15).trans C15.out,((af hkx hb).cell 23).trans C23.out,((af hkx hb).cell 16).trans C16.out,((af hkx hb).cell 17).trans C17.out,((af hkx hb).cell 18).trans C18.out,((af hkx hb).cell 19).trans C19.out,((af hkx hb).cell 20).trans C20.out,((af hkx hb).cell 21).trans C21.out,((af hkx hb).cell 22).trans C22.out,hb⟩)
 have HWC:=aa hwc
 clear hwc hbx hkx hcs hm hfl hat hli hmo hde hco hz_name hz_secret hz_kind hz_value hz_text hz_rdn c3 c11 c12 c13 c14 c15 c23 c16 c17 c18 c19 c20 c21 c22
 go_enter Tryz.func76,Tryz.ntmps76
 go_wp2_with fail
 rw [<- HWC.out]
 go_region_held3 (fun W => W.cell? ⟨w.heap.size,3,none⟩ = some (.string M.name) /\ W.cell? ⟨w.heap.size,11,none⟩ = some (.int .i64 M.scope) /\ W.cell? ⟨w.heap.size,12,none⟩ = some (.int .i64 M.deref) /\ W.cell? ⟨w.heap.size,13,none⟩ = some (.int .i64 M.size) /\ W.cell? ⟨w.heap.size,14,none⟩ = some (.int .i64 M.time) /\ W.cell? ⟨w.heap.size,15,none⟩ = some (.bool M.types) /\ W.cell? ⟨w.heap.size,23,none⟩ = some (.slice at'.A at'.n at'.c) /\ W.cell? ⟨w.heap.size,16,none⟩ = some (.int .i64 f.kind) /\ W.cell? ⟨w.heap.size,17,none⟩ = some (.string f.attr) /\ W.cell? ⟨w.heap.size,18,none⟩ = some (.string f.value) /\ W.cell? ⟨w.heap.size,19,none⟩ = some (.string f.first) /\ W.cell? ⟨w.heap.size,20,none⟩ = some (.slice f.any.A f.any.n f.any.c) /\ W.cell? ⟨w.heap.size,21,none⟩ = some (.string f.last) /\ W.cell? ⟨w.heap.size,22,none⟩ = some (.slice f.kids.A f.kids.n f.kids.c) /\ Below wc.heap.size wc W)
  (first | exact HKS.out _ HBR.out | exact HKS.out _ (by assumption) | exact HKS.out _ (bel1 (by assumption) _))
  (first
   | (go_at_call 52; (with_reducible refine (HT_name.out _).mono ?_); rintro e w1 ⟨hb1,cs1,rfl,ht1⟩; obtain ⟨a10,a11,a12,a13,a1A,a1n,a1c,rfl⟩:=ak ht1; have hn1:=ag HBR.out hb1)
   | (go_at_call 19; (with_reducible refine (HN_scope.out _).mono ?_); rintro e w2 ⟨hb2,cs2,rfl,ht2⟩; obtain ⟨a20,a21,a22,a23,a2A,a2n,a2c,rfl⟩:=ak ht2; have hn2:=ag hn1 hb2)
   | (go_at_call 19; (with_reducible refine (HN_deref.out _).mono ?_); rintro e w3 ⟨hb3,cs3,rfl,ht3⟩; obtain ⟨a30,a31,a32,a33,a3A,a3n,a3c,rfl⟩:=ak ht3; have hn3:=ag hn2 hb3)
   | (go_at_call 19; (with_reducible refine (HN_size.out _).mono ?_); rintro e w4 ⟨hb4,cs4,rfl,ht4⟩; obtain ⟨a40,a41,a42,a43,a4A,a4n,a4c,rfl⟩:=ak ht4; have hn4:=ag hn3 hb4)
   | (go_at_call 19; (with_reducible refine (HN_time.out _).mono ?_); rintro e w5 ⟨hb5,cs5,rfl,ht5⟩; obtain ⟨a50,a51,a52,a53,a5A,a5n,a5c,rfl⟩:=ak ht5; have hn5:=ag hn4 hb5)
   | (go_at_call 53; (with_reducible refine (HB_types.out _).mono ?_); rintro e w6 ⟨hb6,cs6,rfl,ht6⟩; obtain ⟨a60,a61,a62,a63,a6A,a6n,a6c,rfl⟩:=ak ht6; have hn6:=ag hn5 hb6)
   | (go_at_call 99; refine (HFIL.out _ hn6).mono ?_; rintro e w7 ⟨hb7,cs7,rfl,ht7⟩; obtain ⟨a70,a71,a72,a73,a7A,a7n,a7c,rfl⟩:=ak ht7; have hn7:=ag hn6 hb7)
   | (go_at_call 82; refine (HOF.out _ hn7).mono ?_; rintro e w8 ⟨hb8,q8,rfl,hq8⟩; have hn8:=ag hn7 hb8)
   | (go_at_call 18; refine (bD _ _ _ _).mono ?_; rintro e w9 ⟨rfl,hb9⟩; have hn9:=ag hn8 hb9)
   | fail)
 all_goals
  have h0:=HBX.out.trans (hn9.mono HBX.out.size)
  have HP:=aa (dJ (w:=w) (w8:=w9) (n:=8) (ts:=M.seaT) [[.int .i64 a10,.bool a11,.int .i64 a12,.string a13,.slice a1A a1n a1c],[.int .i64 a20,.bool a21,.int .i64 a22,.string a23,.slice a2A a2n a2c],[.int .i64 a30,.bool a31,.int .i64 a32,.string a33,.slice a3A a3n a3c],[.int .i64 a40,.bool a41,.int .i64 a42,.string a43,.slice a4A a4n a4c],[.int .i64 a50,.bool a51,.int .i64 a52,.string a53,.slice a5A a5n a5c],[.int .i64 a60,.bool a61,.int .i64 a62,.string a63,.slice a6A a6n a6c],[.int .i64 a70,.bool a71,.int .i64 a72,.string a73,.slice a7A a7n a7c],[.int .i64 0,.bool true,.int .i64 16,.string ⟨#[]⟩,.slice q8.A q8.n q8.c]] #[.int .i64 a10,.bool a11,.int .i64 a12,.string a13,.slice a1A a1n a1c,.int .i64 a20,.bool a21,.int .i64 a22,.string a23,.slice a2A a2n a2c,.int .i64 a30,.bool a31,.int .i64 a32,.string a33,.slice a3A a3n a3c,.int .i64 a40,.bool a41,.int .i64 a42,.string a43,.slice a4A a4n a4c,.int .i64 a50,.bool a51,.int .i64 a52,.string a53,.slice a5A a5n a5c,.int .i64 a60,.bool a61,.int .i64 a62,.string a63,.slice a6A a6n a6c,.int .i64 a70,.bool a71,.int .i64 a72,.string a73,.slice a7A a7n a7c,.int .i64 0,.bool true,.int .i64 16,.string ⟨#[]⟩,.slice q8.A q8.n q8.c] h0 rfl
   (by
    exact ⟨⟨rfl,TlAt.up ht1 (ag (ag (ag (ag (ag (ag (ag (ag (Below.refl _ _) hb2) hb3) hb4) hb5) hb6) hb7) hb8) hb9) HBX.out.size⟩,⟨rfl,TlAt.up ht2 (ag (ag (ag (ag (ag (ag (ag (Below.refl _ _) hb3) hb4) hb5) hb6) hb7) hb8) hb9) (HBX.out.trans (hn1.mono HBX.out.size)).size⟩,⟨rfl,TlAt.up ht3 (ag (ag (ag (ag (ag (ag (Below.refl _ _) hb4) hb5) hb6) hb7) hb8) hb9) (HBX.out.trans (hn2.mono HBX.out.size)).size⟩,⟨rfl,TlAt.up ht4 (ag (ag (ag (ag (ag (Below.refl _ _) hb5) hb6) hb7) hb8) hb9) (HBX.out.trans (hn3.mono HBX.out.size)).size⟩,⟨rfl,TlAt.up ht5 (ag (ag (ag (ag (Below.refl _ _) hb6) hb7) hb8) hb9) (HBX.out.trans (hn4.mono HBX.out.size)).size⟩,⟨rfl,TlAt.up ht6 (ag (ag (ag (Below.refl _ _) hb7) hb8) hb9) (HBX.out.trans (hn5.mono HBX.out.size)).size⟩,⟨rfl,TlAt.up ht7 (ag (ag (Below.refl _ _) hb8) hb9) (HBX.out.trans (hn6.mono HBX.out.size)).size⟩,⟨rfl,TlAt.up (bX 0 16 true ⟨#[]⟩ hq8 rfl rfl (Nat.zero_le _)) (ag (Below.refl _ _) hb9) (HBX.out.trans (hn7.mono HBX.out.size)).size⟩,trivial⟩) rfl (by omega))
  go_wp2_with fail
  go_ret
  exact HP.out
end Go.Proofs.YtbiglfpikfjbpaaGreatDoor
