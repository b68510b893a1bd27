import Derived.Test.YtbiglfpikfjbpaaGreatDoorM12
import Derived.Test.YtbiglfpikfjbpaaGreatDoorM7
import Derived.Test.YtbiglfpikfjbpaaGreatDoorM16
import Derived.Test.YtbiglfpikfjbpaaGreatDoorM3
import Derived.Deep.AppendLies
import Derived.Test.YtbiglfpikfjbpaaGreatDoorM9
import Derived.Test.YtbiglfpikfjbpaaGreatDoorM4
import Derived.Test.YtbiglfpikfjbpaaGreatDoorM5
import Derived.LoopN
namespace Go.Proofs.YtbiglfpikfjbpaaGreatDoor
open Go.RowKit
set_option maxRecDepth 100000
set_option linter.unusedVariables false
set_option linter.unusedSimpArgs false
set_option maxHeartbeats 40000000
theorem ew (c g : Int) (k : Bool) (s : ByteArray) (w : World) (S : Nat -> Prop) (hc : (Lit.int .i64 c).wf = true) (hg : (Lit.int .i64 g).wf = true) (hs : s.size <= maxLen) :
  TlAt w S (.mk c k g s []) #[.int .i64 c,.bool k,.int .i64 g,.string s,.slice none 0 0]:=by
 unfold TlAt
 exact ⟨none,0,rfl,⟨Nat.zero_le _,Nat.zero_le _⟩,hc,hg,hs,by unfold KsAt; trivial⟩
theorem aX (s : ByteArray) (w : World) (hs : s.size <= maxLen) : Calls Tryz.prog 52 #[.string s] w (RetT (.mk 0 false 4 s []) w):=by
 have HL:=aa (fun W S => ew 0 4 false s W S rfl rfl hs)
 clear hs
 go_enter Tryz.func52,Tryz.ntmps52
 go_wp2_with fail
 exact bodyPost_ret (v:=.agg #[.int .i64 0,.bool false,.int .i64 4,.string s,.slice none 0 0]) (by simp [results,Tryz.results52,go_sem]) rfl ⟨(Below.refl _ _).alloc (Nat.le_refl _) _,_,rfl,HL.out _ _⟩
theorem ee (g : Int) (s : ByteArray) (w : World) (hg : (Lit.int .i64 g).wf = true) (hs : s.size <= maxLen) : Calls Tryz.prog 84 #[.int .i64 g,.string s] w (RetT (.mk 2 false g s []) w):=by
 have HL:=aa (fun W S => ew 2 g false s W S rfl hg hs)
 clear hs hg
 go_enter Tryz.func84,Tryz.ntmps84
 go_wp2_with fail
 exact bodyPost_ret (v:=.agg #[.int .i64 2,.bool false,.int .i64 g,.string s,.slice none 0 0]) (by simp [results,Tryz.results84,go_sem]) rfl ⟨(Below.refl _ _).alloc (Nat.le_refl _) _,_,rfl,HL.out _ _⟩
def TlL (w : World) (S : Nat -> Prop) (t : Tl) (c : List Value) : Prop:=TlAt w S t c.toArray
theorem au : cq TlL:=fun hs hk hT d c h => TlAt.keep hs hk hT d c.toArray h
theorem cw {α : Type} {l : List α} {j : Nat} {x : α} (h : l[j]? = some x) : l.take (j + 1) = l.take j ++ [x]:=by
 rw [List.take_add_one,h]; rfl
def aN (ts : List Tl) (w : World) (e : Ending) (w' : World) : Prop :=
 Below w.heap.size w w' /\ ∃ q : Rw,e = .returned (.slice q.A q.n q.c) /\ RowOf 5 TlL w' (fun x => w.heap.size <= x) q ts
theorem of_str (A : Option Addr) (cap : Nat) (ss : List ByteArray) (tl : ByteArray -> Tl) (w : World) (hsl : Sl w A (ss.map Value.string)) (hn : ss.length <= 1000000)
  (hdo : ∀ s ∈ ss,∀ W,Calls Tryz.prog 52 #[.string s] W (RetT (tl s) W)) :
  Calls Tryz.prog 82 #[.slice A ss.length cap,.func (.func 52) #[] #[]] w (aN (ss.map tl) w):=by
 obtain ⟨i0,hi,hz0,hz1,hz2⟩:=info_parts aR
 have HSL:=aa hsl
 have HDO:=aa hdo
 have h0 : GRow 42 5 TlL w w.heap.size (.slice none 0 0) ((ss.take 0).map tl):=GRow.nil _ _
 have H0:=aa h0
 clear hsl hdo h0
 go_enter Tryz.func82,Tryz.ntmps82
 go_wp2_with fail
 go_loopw [5,10] (fun u i wr => ∃ (j : Nat),i = .int .i64 j /\ j <= ss.length /\ Hid (GRow 42 5 TlL wr w.heap.size u ((ss.take j).map tl)) /\ Below w.heap.size w wr) (fun _ i _ => ss.length - (intOf i).toNat)
 case atStart => exact ⟨0,rfl,Nat.zero_le _,H0,Below.refl _ _⟩
 case round =>
  obtain ⟨j,rfl,hj,hg,hb⟩:=hrel
  have HJ:=aa hj
  have HB:=aa hb
  have HG:=hg
  clear hg hb
  rcases Nat.lt_or_ge j ss.length with hlt | hge
  ·have hx : ss[j]? = some ss[j]:=List.getElem?_eq_getElem hlt
   have z1 : decide ((j : Int) < (ss.length : Int)) = true:=ab (by omega)
   obtain ⟨b,o,rfl,hbl,hc⟩:=HSL.out j (.string ss[j]) (by rw [List.getElem?_map,hx]; rfl)
   have c0 : wr.cell? ⟨b,o + j,none⟩ = some (.string ss[j]):=((bcell HB.out).1 b (o + j) hbl).trans hc
   obtain ⟨s,hs⟩ : ∃ s,s = ss[j]:=⟨_,rfl⟩
   rw [<- hs] at c0
   have HD:=aa (HDO.out s (by rw [hs]; exact List.getElem_mem hlt) wr)
   have HX:=aa (show ss[j]? = some s by rw [hs]; exact hx)
   obtain ⟨css,hcl,hck,hown,hall⟩:=HG.out
   have hlen : ((ss.take j).map tl).length = j:=by rw [List.length_map,List.length_take]; omega
   rw [hlen] at hown
   clear hx hs hc
   go_wp2_with (first
    | (go_at_call 52; refine HD.out.mono ?_; rintro e w2 ⟨hb2,cs2,rfl,ht2⟩; obtain ⟨x0,x1,x2,x3,xA,xn,xc,rfl⟩:=ak ht2; have hown2:=(Off.of_below hb2 []).own hown (by simp); have hs1:=HB.out.size; have hs2:=hb2.size)
    | (at_builtin; refine wpList_append_own_at _ rfl (.tmp 14) (.tmp 18) 40 rfl w.heap.size 42 i0 _ 5 64 Tryz.underlying40 hi hz0 hz1 hz2 rfl (by decide) u5 _ _ rfl (World.ownsRow.alloc (w:=w2) hown2 _) ⟨w2.heap.size,0,none⟩ 1 1 [.int .i64 x0,.bool x1,.int .i64 x2,.string x3,.slice xA xn xc] rfl rfl (World.news_of_block (cs:=#[.int .i64 x0,.bool x1,.int .i64 x2,.string x3,.slice xA xn xc]) (t:=42) (fr:=(0,0)) (heap_alloc_new w2 _)) (by simp [Value.oneCell']) (by unfold maxLen; omega) (by omega) (by simp; omega) ?_; intro v' w3 hown3 hgrow3 hnil3 hat3)
    | fail)
   have ha:=(Below.refl w2.heap.size w2).alloc (Nat.le_refl _) (.cells #[.int .i64 x0,.bool x1,.int .i64 x2,.string x3,.slice xA xn xc] 42)
   have hp:=GRow.push au (w:=wr) (w1:=w2) (w2:=w2.alloc (.cells #[.int .i64 x0,.bool x1,.int .i64 x2,.string x3,.slice xA xn xc] 42)) (d:=tl s) (c:=[.int .i64 x0,.bool x1,.int .i64 x2,.string x3,.slice xA xn xc]) hs1 hcl hck (by rw [hlen]; exact hown) hall (fun x _ hlt => hb2.block x hlt) hs2 rfl ht2 ha (by rw [hlen]; exact hown3) hgrow3 hat3
   have e1 : (ss.take j).map tl ++ [tl s] = (ss.take (j + 1)).map tl:=by rw [cw HX.out,List.map_append]; rfl
   rw [e1] at hp
   refine ⟨⟨j + 1,by simp,by omega,hp,?_⟩,?_⟩
   ·have h1:=HB.out.trans (hb2.mono hs1)
    have h2:=h1.alloc h1.size (.cells #[.int .i64 x0,.bool x1,.int .i64 x2,.string x3,.slice xA xn xc] 42)
    have h3 : Off [] w (w2.alloc (.cells #[.int .i64 x0,.bool x1,.int .i64 x2,.string x3,.slice xA xn xc] 42)):=Off.of_below h2 []
    exact (h3.grown hgrow3 (fun g hg => .inr (hown.lt g hg).1)).below (Nat.le_refl _) (by simp)
   ·show ss.length - ((j : Int) + 1).toNat < ss.length - (j : Int).toNat
    omega
  ·have z1 : decide ((j : Int) < (ss.length : Int)) = false:=ae (by omega)
   obtain rfl : j = ss.length:=by omega
   obtain ⟨q,rfl,hq⟩:=GRow.row au HG.out
   rw [List.take_length] at hq
   have HQ:=aa hq
   clear hq
   go_wp2_with fail
   go_ret
   exact ⟨HB.out,q,rfl,HQ.out⟩
theorem rowOf_ks {w : World} {S : Nat -> Prop} {q : Rw} {ts : List Tl} (h : RowOf 5 TlL w S q ts) : q.n = ts.length /\ (q.n <= q.c /\ q.c <= maxLen) /\ KsAt w S ts q.A 0:=by
 obtain ⟨h1,h2,h3,h4⟩:=h
 refine ⟨h1,⟨h2,h3⟩,KsAt.of ts 0 (fun i hi => ?_)⟩
 obtain ⟨b,o,c,hA,hb,hcl,hc,ht⟩:=h4 i ts[i] (List.getElem?_eq_getElem hi)
 match c,hcl with
 | [c0,c1,c2,c3,c4],_ =>
  refine ⟨b,o,c0,c1,c2,c3,c4,hA,hb,?_,?_,?_,?_,?_,ht⟩
  ·have:=hc 0 c0 rfl; simpa using this
  ·have:=hc 1 c1 rfl; simpa using this
  ·have:=hc 2 c2 rfl; simpa using this
  ·have:=hc 3 c3 rfl; simpa using this
  ·have:=hc 4 c4 rfl; simpa using this
theorem bX {w : World} {S : Nat -> Prop} {q : Rw} {ts : List Tl} (c g : Int) (k : Bool) (s : ByteArray) (h : RowOf 5 TlL w S q ts) (hc : (Lit.int .i64 c).wf = true) (hg : (Lit.int .i64 g).wf = true) (hs : s.size <= maxLen) :
  TlAt w S (.mk c k g s ts) #[.int .i64 c,.bool k,.int .i64 g,.string s,.slice q.A q.n q.c]:=by
 obtain ⟨h1,h2,h3⟩:=rowOf_ks h
 unfold TlAt
 rw [h1] at h2 |-
 exact ⟨q.A,q.c,rfl,h2,hc,hg,hs,h3⟩
def tstr (s : ByteArray) : Tl:=.mk 0 false 4 s []
def cv (name : ByteArray) (ss : List ByteArray) : Tl:=aI [tstr name,.mk 0 true 17 ⟨#[]⟩ (ss.map tstr)]
theorem attribute_t (name : ByteArray) (A : Option Addr) (cap : Nat) (ss : List ByteArray) (w : World) (hn : name.size <= maxLen) (hsl : Sl w A (ss.map Value.string)) (hc : ss.length <= 1000000) (hs : ∀ s ∈ ss,s.size <= maxLen) :
  Calls Tryz.prog 79 #[.string name,.slice A ss.length cap] w (RetT (cv name ss) w):=by
 have HN:=aa hn
 have HOF:=aa (fun W (hb : Below w.heap.size w W) => of_str A cap ss tstr W (hsl.off (Off.of_below hb []) (by simp)) hc (fun s h W' => aX s W' (hs s h)))
 clear hn hsl hc hs
 go_enter Tryz.func79,Tryz.ntmps79
 go_wp2_with (first
  | (go_at_call 52; refine (aX name _ HN.out).mono ?_; rintro e w2 ⟨hb2,cs2,rfl,ht2⟩; obtain ⟨x0,x1,x2,x3,xA,xn,xc,rfl⟩:=ak ht2)
  | (go_at_call 82; refine (HOF.out _ (((Below.refl _ w).alloc (Nat.le_refl _) _).trans (hb2.mono (by simp)))).mono ?_; rintro e w3 ⟨hb3,q,rfl,hq⟩)
  | (go_at_call 18; refine (bD _ _ _ _).mono ?_; rintro e w4 ⟨rfl,hb4⟩; have hz4 : Bk w4 w.heap.size 42 #[.int .i64 0,.bool false,.int .i64 0,.string ⟨#[]⟩,.slice none 0 0]:=af ((af (af (Bk.new w 42 #[.int .i64 0,.bool false,.int .i64 0,.string ⟨#[]⟩,.slice none 0 0]) hb2) hb3).alloc _) hb4; have hx4 : Bk w4 w3.heap.size 42 #[.int .i64 x0,.bool x1,.int .i64 x2,.string x3,.slice xA xn xc,.int .i64 0,.bool true,.int .i64 17,.string ⟨#[]⟩,.slice q.A q.n q.c]:=af (Bk.new w3 42 #[.int .i64 x0,.bool x1,.int .i64 x2,.string x3,.slice xA xn xc,.int .i64 0,.bool true,.int .i64 17,.string ⟨#[]⟩,.slice q.A q.n q.c]) hb4; have HZ4:=aa hz4; have HX4:=aa hx4)
  | (refine ap rfl 42 (.tmp 4) (.tmp 11) rfl w.heap.size rfl #[.int .i64 0,.bool true,.int .i64 16,.string ⟨#[]⟩,.slice (some ⟨w3.heap.size,0,none⟩) 2 2] rfl 42 #[.int .i64 0,.bool false,.int .i64 0,.string ⟨#[]⟩,.slice none 0 0] HZ4.out rfl (by kernel_rfl) (by simp [Value.oneCell']) (fun w5 hbk5 hof5 => ?_); have HBK5:=aa hbk5; have HOF5:=aa hof5; have r0:=hbk5.cell 0; have r1:=hbk5.cell 1; have r2:=hbk5.cell 2; have r3:=hbk5.cell 3; have r4:=hbk5.cell 4)
  | fail)
 have h34 : Below w3.heap.size w3 w4:=((Below.refl _ w3).alloc (Nat.le_refl _) (.cells #[.int .i64 x0,.bool x1,.int .i64 x2,.string x3,.slice xA xn xc,.int .i64 0,.bool true,.int .i64 17,.string ⟨#[]⟩,.slice q.A q.n q.c] 42)).trans (hb4.mono (by simp))
 have h24 : Below w2.heap.size w2 w4:=hb3.trans (h34.mono hb3.size)
 have h04:=((Below.refl w.heap.size w).alloc (Nat.le_refl _) (.cells #[.int .i64 0,.bool false,.int .i64 0,.string ⟨#[]⟩,.slice none 0 0] 42)).trans ((hb2.trans (h24.mono hb2.size)).mono (by simp))
 have s2 : w.heap.size + 1 <= w2.heap.size:=by have:=hb2.size; simpa using this
 have s3:=hb3.size
 have hk2 : TlAt w4 (fun x => w.heap.size < x) (tstr name) _:=TlAt.keep h24.size (fun x _ hlt => h24.block x hlt) (fun x hx _ => by have hx : (w.alloc _).heap.size <= x:=hx; simp at hx; show w.heap.size < x; omega) _ _ ht2
 have hk3:=TlAt.keep (T:=fun x => w.heap.size < x) h34.size (fun x _ hlt => h34.block x hlt) (fun x hx _ => by have hx : w2.heap.size <= x:=hx; show w.heap.size < x; omega) _ _ (bX 0 17 true ⟨#[]⟩ hq rfl rfl (Nat.zero_le _))
 have htt:=ex (S:=fun x => w.heap.size < x) HX4.out (by show w.heap.size < w3.heap.size; omega) hk2 hk3
 have HTF:=aa (TlAt.keep (T:=fun x => w.heap.size <= x) HOF5.out.size (fun x hx hlt => HOF5.out.block x hlt (by have hx : w.heap.size < x:=hx; simp; omega)) (fun x hx _ => Nat.le_of_lt hx) _ _ htt)
 have HBF:=aa (h04.trans (HOF5.out.below (B:=w.heap.size) h04.size (by simp)))
 clear htt hk2 hk3 h04 h24 h34 ht2 hq
 exact bodyPost_ret (v:=.agg #[.int .i64 0,.bool true,.int .i64 16,.string ⟨#[]⟩,.slice (some ⟨w3.heap.size,0,none⟩) 2 2]) (by simp [results,Tryz.results79,go_sem,r0,r1,r2,r3,r4]) rfl ⟨HBF.out,_,rfl,HTF.out⟩
theorem PB.ofNum_done (n : Int) (h1 : -9223372036854775808 <= n) (h2 : n <= 9223372036854775807) : PB.sgn (PB.ofNum n) = n /\ PB.isNum false (PB.ofNum n) = true /\ (PB.ofNum n).length <= 8:=by
 have key : ∀ (k : Nat) (l : List UInt8) (m : Int),PB.OfAt n l m -> 8 - l.length = k -> ∃ l' m',PB.OfAt n l' m' /\ PB.enough l' m':=by
  intro k
  induction k with
  | zero =>
   intro l m h hk
   exact ⟨l,m,h,h.full h1 h2 (by have:=h.2.1; omega)⟩
  | succ k ih =>
   intro l m h hk
   by_cases hs : PB.enough l m
   ·exact ⟨l,m,h,hs⟩
   ·exact ih _ _ (h.next h1 h2 hs) (by simp; omega)
 obtain ⟨l,m,h,hs⟩:=key _ _ _ (PB.OfAt.start n) rfl
 obtain ⟨a,b,c⟩:=h.done hs
 rw [<- c]
 exact ⟨a,b,h.2.1⟩
def town (g : Int) (s : ByteArray) : Tl:=.mk 2 false g s []
def boolB (q : Bool) : ByteArray:=if q then ⟨#[255]⟩ else ⟨#[0]⟩
def bx (q : Bool) : Tl:=.mk 0 false 1 (boolB q) []
def aF (f : ByteArray) (any : List ByteArray) (l : ByteArray) : List Tl:=(if aj f then [town 0 f] else []) ++ (any.map (town 1) ++ (if aj l then [town 2 l] else []))
mutual
def a8 : Fl -> Tl
 | .mk k a v f any l kids =>
  if k = 0 \/ k = 1 \/ k = 2 then .mk 2 true k ⟨#[]⟩ (cg kids)
  else if k = 7 then town 7 a
  else if k = 4 then .mk 2 true 4 ⟨#[]⟩ [tstr a,aI (aF f any l)]
  else .mk 2 true k ⟨#[]⟩ [tstr a,tstr v]
def cg : List Fl -> List Tl
 | [] => []
 | k :: ks => a8 k :: cg ks
end
theorem eV : ∀ (l : List Fl),cg l = l.map a8
 | [] => rfl
 | k :: ks => by rw [cg,eV ks]; rfl
def tctl (c : Co) : Tl:=aI (tstr c.1 :: ((if c.2.1 then [bx true] else []) ++ (if c.2.2.1 then [tstr c.2.2.2] else [])))
def tat (a : At) : Tl:=cv a.1 a.2
def tmod (x : Md) : Tl:=aI [tnum 10 x.1,cv x.2.1 x.2.2]
namespace Ms
def bindT (M : Ms) : List Tl:=[tnum 2 M.version,tstr M.name,if M.sasl then .mk 2 true 3 ⟨#[]⟩ (tstr M.kind :: (if M.has then [tstr M.value] else [])) else town 0 M.secret]
def seaT (M : Ms) : List Tl:=[tstr M.name,tnum 10 M.scope,tnum 10 M.deref,tnum 2 M.size,tnum 2 M.time,bx M.types,a8 M.filter,aI (M.attrs.map tstr)]
def entT (M : Ms) : List Tl:=[tstr M.name,aI (M.list.map tat)]
def modT (M : Ms) : List Tl:=[tstr M.name,aI (M.mods.map tmod)]
def renT (M : Ms) : List Tl:=[tstr M.name,tstr M.rdn,bx M.old] ++ M.dest.map (town 0)
def cmpT (M : Ms) : List Tl:=[tstr M.name,aI [tstr M.kind,tstr M.value]]
def extT (M : Ms) : List Tl:=town 0 M.kind :: (if M.has then [town 1 M.value] else [])
def ansT (M : Ms) : List Tl:=[tnum 10 M.code,tstr M.name,tstr M.text] ++ (if M.op == 24 && aj M.kind then [town 10 M.kind] else [])
def partsT (M : Ms) : List Tl :=
 if M.op = 0 then M.bindT else if M.op = 3 then M.seaT else if M.op = 4 \/ M.op = 8 then M.entT else if M.op = 6 then M.modT else if M.op = 12 then M.renT else if M.op = 14 then M.cmpT else if M.op = 23 then M.extT else M.ansT
def opT (M : Ms) : Tl :=
 if M.op = 2 then .mk 1 false 2 ⟨#[]⟩ [] else if M.op = 10 then .mk 1 false 10 M.name [] else if M.op = 16 then .mk 1 false 16 ⟨(PB.ofNum M.other).toArray⟩ [] else .mk 1 true M.op ⟨#[]⟩ M.partsT
def tree (M : Ms) : Tl:=aI ([tnum 2 M.id,M.opT] ++ (if M.controls = [] then [] else [.mk 2 true 0 ⟨#[]⟩ (M.controls.map tctl)]))
end Ms
theorem aJ {s : ByteArray} (h : aj s = false) : s = ⟨#[]⟩:=by
 have:=(aE h).2
 obtain ⟨d⟩:=s
 obtain ⟨l⟩:=d
 have e : (⟨⟨l⟩⟩ : ByteArray).toList = l:=by simp [ByteArray.toList_eq]
 rw [e] at this
 rw [this]
theorem aO (c g : Int) (k : Bool) (b : ByteArray) (ks r : List Tl) : headP c g k (.mk c k g b ks :: r) = some (.mk c k g b ks,r):=by
 simp [headP,Tl.isB]
theorem dV {c g c' g' : Int} {k k' : Bool} (b : ByteArray) (ks r : List Tl) (h : c ≠ c' \/ g ≠ g' \/ k ≠ k') : headP c' g' k' (.mk c k g b ks :: r) = none:=by
 have e : (Tl.mk c k g b ks).isB c' g' k' = false:=by
  unfold Tl.isB
  simp
  rcases h with h | h | h
  ·exact fun e => absurd e h
  ·exact fun _ e => absurd e h
  ·exact fun _ _ e => absurd e h
 simp [headP,e]
theorem headP_str (s : ByteArray) (r : List Tl) : headP 0 4 false (tstr s :: r) = some (tstr s,r):=aO 0 4 false s [] r
theorem tstr_body (s : ByteArray) : (tstr s).body = s:=rfl
theorem dg (c g : Int) (k : Bool) : headP c g k [] = none:=rfl
theorem aL (s : ByteArray) (r : List Tl) : bc (tstr s :: r) = some (s,r):=by
 simp [bc,tstr,aO,Tl.body]
theorem bL (g lo hi n : Int) (r : List Tl) (h1 : lo <= n) (h2 : n <= hi) (h3 : -9223372036854775808 <= lo) (h4 : hi <= 9223372036854775807) : numP g lo hi (tnum g n :: r) = some (n,r):=by
 obtain ⟨a,b,-⟩:=PB.ofNum_done n (by omega) (by omega)
 simp [numP,tnum,aO,Tl.body,dx,a,b,inB,h1,h2]
theorem cS (q : Bool) (r : List Tl) : dl (bx q :: r) = some (q,r):=by
 have e : ef false (boolB q) = (q,0):=by cases q <;> simp [ef,boolB,ByteArray.toList_eq]
 simp [dl,bx,aO,Tl.body,e]
theorem bu (ks r : List Tl) : aZ 16 (aI ks :: r) = some (ks,r):=by
 simp [aZ,aI,aO,Tl.kids]
theorem eR : ∀ (ss : List ByteArray),cf (ss.map tstr) = some ss
 | [] => rfl
 | s :: ss => by
  have h:=aL s (ss.map tstr)
  rw [List.map_cons,(eq h).1,eR ss]
  rfl
theorem attrP_at (n : ByteArray) (ss : List ByteArray) : dH [tstr n,.mk 0 true 17 ⟨#[]⟩ (ss.map tstr)] = some (n,ss):=by
 simp [dH,aL,aZ,aO,Tl.kids,eR]
theorem fb : ∀ (az : List At),bz (az.map tat) = some az
 | [] => rfl
 | (n,ss) :: az => by
  have h : aZ 16 (tat (n,ss) :: az.map tat) = some (_,_):=bu _ _
  rw [List.map_cons,(attrsP_some h (attrP_at n ss)).2,fb az]
  rfl
theorem oneP_mod (x : Md) (h : inB x.1 0 2 = true) : oneP [tnum 10 x.1,cv x.2.1 x.2.2] = some x:=by
 have h' : 0 <= x.1 /\ x.1 <= 2:=by simpa [inB] using h
 simp [oneP,bL 10 0 2 x.1 _ h'.1 h'.2 (by omega) (by omega),cv,bu,attrP_at]
theorem modsP_map : ∀ (az : List Md),(az.all fun x => inB x.1 0 2) = true -> cO (az.map tmod) = some az
 | [],_ => rfl
 | x :: az,h => by
  simp only [List.all_cons,Bool.and_eq_true] at h
  have hl : aZ 16 (tmod x :: az.map tmod) = some (_,_):=bu _ _
  rw [List.map_cons,(modsP_some hl (oneP_mod x h.1)).2,modsP_map az h.2]
  rfl
theorem ctlP_ctl (c : Co) (h : (c.2.2.1 || !aj c.2.2.2) = true) : ctlP (tstr c.1 :: ((if c.2.1 then [bx true] else []) ++ (if c.2.2.1 then [tstr c.2.2.2] else []))) = some c:=by
 obtain ⟨a,q,x,v⟩:=c
 simp only at h |-
 have no1 : ∀ (b : ByteArray) (r : List Tl),bP (tstr b :: r) 0 1 false = false:=fun b r => by simp [bP,tstr,Tl.isB]
 have yes1 : ∀ (r : List Tl),bP (bx true :: r) 0 1 false = true:=fun r => by simp [bP,bx,Tl.isB]
 have h4 : ∀ (b : ByteArray) (r : List Tl),headP 0 4 false (tstr b :: r) = some (tstr b,r):=fun b r => aO _ _ _ _ _ _
 cases q <;> cases x
 ·have hv : v = ⟨#[]⟩:=aJ (by simpa using h)
  subst hv
  simp [ctlP,aL,crP,bP,headP]
 ·simp [ctlP,aL,crP,no1,h4]
  simp [tstr,Tl.body]
 ·have hv : v = ⟨#[]⟩:=aJ (by simpa using h)
  subst hv
  simp [ctlP,aL,crP,yes1,cS,headP]
 ·simp [ctlP,aL,crP,yes1,cS,h4]
  simp [tstr,Tl.body]
theorem ctlsP_map : ∀ (az : List Co),(az.all fun c => c.2.2.1 || !aj c.2.2.2) = true -> cD (az.map tctl) = some az
 | [],_ => rfl
 | x :: az,h => by
  simp only [List.all_cons,Bool.and_eq_true] at h
  have hl : aZ 16 (tctl x :: az.map tctl) = some (_,_):=bu _ _
  rw [List.map_cons,(ctlsP_some hl (ctlP_ctl x h.1)).2,ctlsP_map az h.2]
  rfl
theorem onceP_own (g : Int) (s : ByteArray) (r : List Tl) : dj g (town g s :: r) = (s,r):=by
 have h : headP 2 g false (town g s :: r) = some (town g s,r):=aO 2 g false s [] r
 rw [dS h]; rfl
theorem anyP_map : ∀ (any : List ByteArray) (r : List Tl),(headP 2 1 false r = none) -> anyP (any.map (town 1) ++ r) = (any,r)
 | [],r,h => fV h
 | s :: any,r,h => by
  have hh : headP 2 1 false ((s :: any).map (town 1) ++ r) = some (town 1 s,any.map (town 1) ++ r):=aO _ _ _ _ _ _
  rw [anyP_some hh,anyP_map any r h]
  rfl
theorem piecesP_tree (f : ByteArray) (any : List ByteArray) (l : ByteArray) : bW (aF f any l) = some (f,any,l):=by
 have hend : ∀ (r : List Tl),r = (if aj l then [town 2 l] else []) -> headP 2 1 false r = none /\ headP 2 0 false r = none /\ dj 2 r = (l,[]):=by
  intro r hr
  subst hr
  cases hl : aj l with
  | true => exact ⟨dV _ _ _ (by simp),dV _ _ _ (by simp),onceP_own _ _ _⟩
  | false => exact ⟨rfl,rfl,by rw [aJ hl]; rfl⟩
 obtain ⟨r,hr⟩ : ∃ r,r = (if aj l then [town 2 l] else []):=⟨_,rfl⟩
 obtain ⟨h1,h0,h2⟩:=hend r hr
 have hq:=anyP_map any r h1
 have hp : dj 0 (aF f any l) = (f,any.map (town 1) ++ r):=by
  unfold aF
  rw [<- hr]
  cases hf : aj f with
  | true => exact onceP_own _ _ _
  | false =>
   rw [aJ hf]
   refine ej (?_ : headP 2 0 false (any.map (town 1) ++ r) = none)
   cases any with
   | nil => exact h0
   | cons s any => exact dV _ _ _ (by simp)
 unfold bW
 simp only [hp,hq,h2]
 rfl
theorem Fl.cnt_one {k : Int} {a v f : ByteArray} {any : List ByteArray} {l : ByteArray} {kids : List Fl} {d x : Int} (h : 0 <= Fl.cnt (.mk k a v f any l kids) d x) : Fl.one (.mk k a v f any l kids) = true /\ 0 <= Fl.cnts kids (d + 1) (x - 1):=by
 unfold Fl.cnt at h
 by_cases hc : x - 1 < 0 \/ 8 < d \/ Fl.one (.mk k a v f any l kids) = false
 ·rw [if_pos hc] at h; omega
 ·rw [if_neg hc] at h
  exact ⟨by cases ho : Fl.one (.mk k a v f any l kids) <;> simp_all,h⟩
theorem bZ {a v f : ByteArray} {q : Nat} {l : ByteArray} {r : Nat} (h : aS a v f q l r = true) : a = ⟨#[]⟩ /\ v = ⟨#[]⟩ /\ f = ⟨#[]⟩ /\ q = 0 /\ l = ⟨#[]⟩ /\ r = 0:=by
 simp [aS] at h
 obtain ⟨h1,h2,h3,h4,h5,h6⟩:=h
 exact ⟨aJ h1,aJ h2,aJ h3,h4,aJ h5,h6⟩
mutual
theorem filP_tree : ∀ (f : Fl) (d x : Int),0 <= f.cnt d x -> filP (a8 f) = some f
 | .mk k a v f any l kids,d,x,h => by
  obtain ⟨ho,hk⟩:=Fl.cnt_one h
  simp only [Fl.one] at ho
  by_cases h01 : k = 0 \/ k = 1
  ·rw [if_pos h01] at ho
   obtain ⟨rfl,rfl,rfl,hq,rfl,-⟩:=bZ ho
   obtain rfl:=List.eq_nil_of_length_eq_zero hq
   have ih:=eX kids _ _ hk
   rcases h01 with rfl | rfl <;> simp [a8,filP,ih]
  rw [if_neg h01] at ho
  by_cases h2 : k = 2
  ·rw [if_pos h2] at ho
   simp only [Bool.and_eq_true] at ho
   obtain ⟨rfl,rfl,rfl,hq,rfl,-⟩:=bZ ho.1
   obtain rfl:=List.eq_nil_of_length_eq_zero hq
   have ih:=eX kids _ _ hk
   subst h2
   simp [a8,filP,ih]
  rw [if_neg h2] at ho
  by_cases h3 : k = 3 \/ k = 5 \/ k = 6 \/ k = 8
  ·rw [if_pos h3] at ho
   simp only [Bool.and_eq_true] at ho
   obtain ⟨-,-,rfl,hq,rfl,hr⟩:=bZ ho.1
   obtain rfl:=List.eq_nil_of_length_eq_zero hq
   obtain rfl:=List.eq_nil_of_length_eq_zero hr
   rcases h3 with rfl | rfl | rfl | rfl <;> simp [a8,filP,aL]
  rw [if_neg h3] at ho
  by_cases h7 : k = 7
  ·rw [if_pos h7] at ho
   simp only [Bool.and_eq_true] at ho
   obtain ⟨-,rfl,rfl,hq,rfl,hr⟩:=bZ ho.1
   obtain rfl:=List.eq_nil_of_length_eq_zero hq
   obtain rfl:=List.eq_nil_of_length_eq_zero hr
   subst h7
   simp [a8,town,filP]
  rw [if_neg h7] at ho
  by_cases h4 : k = 4
  ·rw [if_pos h4] at ho
   simp only [Bool.and_eq_true] at ho
   obtain ⟨-,rfl,-,-,-,hr⟩:=bZ ho.2.2.1
   obtain rfl:=List.eq_nil_of_length_eq_zero hr
   subst h4
   simp [a8,filP,aL,bu,piecesP_tree]
  ·rw [if_neg h4] at ho
   cases ho
theorem eX : ∀ (ks : List Fl) (d x : Int),0 <= Fl.cnts ks d x -> cC (cg ks) = some ks
 | [],_,_,_ => by simp [cg,cC]
 | k :: ks,d,x,h => by
  unfold Fl.cnts at h
  by_cases hc : k.cnt d x < 0
  ·rw [if_pos hc] at h; omega
  ·rw [if_neg hc] at h
   have h1:=filP_tree k d x (by omega)
   have h2:=eX ks d _ h
   simp [cg,cC,h1,h2]
end
theorem MC.empty_all (b : MC) (h : b.empty = true) : (b.version = 0 /\ b.code = 0 /\ b.scope = 0 /\ b.deref = 0 /\ b.size = 0 /\ b.time = 0 /\ b.other = 0) /\ (b.name = ⟨#[]⟩ /\ b.secret = ⟨#[]⟩ /\ b.kind = ⟨#[]⟩ /\ b.value = ⟨#[]⟩ /\ b.text = ⟨#[]⟩ /\ b.rdn = ⟨#[]⟩) ∧
  (b.sasl = false /\ b.has = false /\ b.types = false /\ b.old = false) /\ (b.attrs.n = 0 /\ b.list.n = 0 /\ b.mods.n = 0 /\ b.dest.n = 0) ∧
  (b.filter.kind = 0 /\ b.filter.attr = ⟨#[]⟩ /\ b.filter.value = ⟨#[]⟩ /\ b.filter.first = ⟨#[]⟩ /\ b.filter.any.n = 0 /\ b.filter.last = ⟨#[]⟩ /\ b.filter.kids.n = 0):=by
 simp only [MC.empty,MC.nums,MC.txts,MC.trus,MC.rows,MC.fils,Bool.and_eq_true,Bool.not_eq_true',Bool.or_eq_false_iff,bne_eq_false_iff_eq,decide_eq_false_iff_not] at h
 obtain ⟨⟨a1,a2,a3,a4,a5,a6,a7⟩,⟨b1,b2,b3,b4,b5,b6⟩,⟨d1,d2,d3,d4⟩,⟨e1,e2,e3,e4⟩,⟨f1,f2,f3,f4,f5,f6,f7⟩⟩:=h
 exact ⟨⟨a1,a2,a3,a4,a5,a6,a7⟩,⟨aJ b1,aJ b2,aJ b3,aJ b4,aJ b5,aJ b6⟩,⟨d1,d2,d3,d4⟩,⟨by omega,by omega,by omega,by omega⟩,⟨f1,aJ f2,aJ f3,aJ f4,by omega,aJ f6,by omega⟩⟩
theorem opP_tree (M : Ms) (hr : M.ranged = true) (he : M.lens.bare.empty = true) : Go.Proofs.YtbiglfpikfjbpaaGreatDoor.opP M.id M.opT = some { M with controls:=[] }:=by
 have h:=MC.empty_all _ he
 clear he
 obtain ⟨id,op,version,name,sasl,secret,kind,has,value,code,text,scope,deref,size,time,types,filter,attrs,list,mods,rdn,old,dest,other,controls⟩:=M
 obtain ⟨fk,fa,fv,ff,fany,fl,fkids⟩:=filter
 simp only [Ms.lens,Ms.mc,Fl.lens] at h
 have hin : ∀ {n lo hi : Int},inB n lo hi = true -> lo <= n /\ n <= hi:=fun h => by simpa [inB] using h
 unfold Ms.ranged at hr
 simp only at hr
 unfold Ms.opT
 simp only
 by_cases h0 : op = 0
 ·subst h0
  simp only [if_pos] at hr
  simp only [Bool.and_eq_true] at hr
  obtain ⟨hv1,hv2⟩:=hin hr.1
  simp [MC.bare,Rw.none,rw] at h
  cases sasl with
  | false =>
   simp at h
   simp [opP,Ms.partsT,Ms.bindT,bg,dk,bL 2 1 127 version _ hv1 hv2 (by omega) (by omega),aL,town,aO,Tl.body,Ms.base,Ms.zero,Fl.zero,h]
  | true =>
   simp at h
   cases has with
   | false =>
    have hval : value = ⟨#[]⟩:=aJ (by simpa using hr.2)
    simp [opP,Ms.partsT,Ms.bindT,bg,dk,bL 2 1 127 version _ hv1 hv2 (by omega) (by omega),aL,dV,aO,Tl.kids,Tl.body,Ms.base,Ms.zero,Fl.zero,h,hval,dg]
   | true =>
    simp [opP,Ms.partsT,Ms.bindT,bg,dk,bL 2 1 127 version _ hv1 hv2 (by omega) (by omega),aL,dV,aO,headP_str,tstr_body,Tl.kids,Ms.base,Ms.zero,Fl.zero,h]
 rw [if_neg h0] at hr
 by_cases h3 : op = 3
 ·subst h3
  simp only [if_pos,Bool.and_eq_true] at hr
  obtain ⟨r1,r2,r3,r4,r5⟩:=hr
  have hf:=filP_tree _ 1 40 (by simpa [Fl.right] using r5)
  simp [MC.bare,Rw.none,rw,FC.zero] at h
  obtain ⟨a1,a2⟩:=hin r1
  obtain ⟨b1,b2⟩:=hin r2
  obtain ⟨d1,d2⟩:=hin r3
  obtain ⟨e1,e2⟩:=hin r4
  simp [opP,Ms.partsT,Ms.seaT,bg,seaP,aL,bL 10 0 2 scope _ a1 a2 (by omega) (by omega),bL 10 0 3 deref _ b1 b2 (by omega) (by omega),bL 2 0 2147483647 size _ d1 d2 (by omega) (by omega),bL 2 0 2147483647 time _ e1 e2 (by omega) (by omega),cS,hf,bu,eR,Ms.base,Ms.zero,Fl.zero,h]
 rw [if_neg h3] at hr
 by_cases h6 : op = 6
 ·subst h6
  simp only [if_pos] at hr
  simp [MC.bare,Rw.none,rw] at h
  simp [opP,Ms.partsT,Ms.modT,bg,modP,aL,bu,modsP_map mods hr,Ms.base,Ms.zero,Fl.zero,h]
 rw [if_neg h6] at hr
 by_cases h12 : op = 12
 ·subst h12
  simp only [if_pos,decide_eq_true_eq] at hr
  simp [MC.bare,Rw.none,rw] at h
  match dest,hr with
  | [],_ => simp [opP,Ms.partsT,Ms.renT,bg,renP,aL,cS,dg,Ms.base,Ms.zero,Fl.zero,h]
  | [d],_ => simp [opP,Ms.partsT,Ms.renT,bg,renP,aL,cS,town,aO,Tl.body,Ms.base,Ms.zero,Fl.zero,h]
 rw [if_neg h12] at hr
 by_cases h16 : op = 16
 ·subst h16
  simp only [if_pos] at hr
  obtain ⟨a1,a2⟩:=hin hr
  simp [MC.bare,Rw.none,rw] at h
  obtain ⟨n1,n2,-⟩:=PB.ofNum_done other (by omega) (by omega)
  simp [opP,dx,n1,n2,inB,a1,a2,Ms.base,Ms.zero,Fl.zero,h]
 rw [if_neg h16] at hr
 by_cases h23 : op = 23
 ·subst h23
  simp only [if_pos] at hr
  simp [MC.bare,Rw.none,rw] at h
  cases has with
  | false =>
   have hval : value = ⟨#[]⟩:=aJ (by simpa using hr)
   simp [opP,Ms.partsT,Ms.extT,bg,extP,town,aO,dg,Tl.body,Ms.base,Ms.zero,Fl.zero,h,hval]
  | true => simp [opP,Ms.partsT,Ms.extT,bg,extP,town,aO,Tl.body,Ms.base,Ms.zero,Fl.zero,h]
 rw [if_neg h23] at hr
 by_cases h2 : op = 2
 ·subst h2
  simp [MC.bare,Rw.none,rw] at h
  simp [opP,aj,Ms.base,Ms.zero,Fl.zero,h,ByteArray.toList_eq]
 by_cases h4 : op = 4
 ·subst h4
  simp [MC.bare,Rw.none,rw] at h
  simp [opP,Ms.partsT,Ms.entT,bg,entP,aL,bu,fb,Ms.base,Ms.zero,Fl.zero,h]
 by_cases h8 : op = 8
 ·subst h8
  simp [MC.bare,Rw.none,rw] at h
  simp [opP,Ms.partsT,Ms.entT,bg,entP,aL,bu,fb,Ms.base,Ms.zero,Fl.zero,h]
 by_cases h10 : op = 10
 ·subst h10
  simp [MC.bare,Rw.none,rw] at h
  simp [opP,Ms.base,Ms.zero,Fl.zero,h]
 by_cases h14 : op = 14
 ·subst h14
  simp [MC.bare,Rw.none,rw] at h
  simp [opP,Ms.partsT,Ms.cmpT,bg,cmpP,aL,bu,Ms.base,Ms.zero,Fl.zero,h]
 rw [if_neg (by simp [h2,h4,h8,h10,h14])] at hr
 simp only [Bool.and_eq_true] at hr
 obtain ⟨hans,hcode⟩:=hr
 obtain ⟨a1,a2⟩:=hin hcode
 by_cases h24 : op = 24
 ·subst h24
  simp [MC.bare,Rw.none,rw] at h
  cases hk : aj kind with
  | true => simp [opP,Ms.partsT,Ms.ansT,bg,ansP,aD,bL 10 0 127 code _ a1 a2 (by omega) (by omega),aL,town,aO,Tl.body,Ms.base,Ms.zero,Fl.zero,h,hk]
  | false =>
   obtain rfl:=aJ hk
   simp [opP,Ms.partsT,Ms.ansT,bg,ansP,aD,bL 10 0 127 code _ a1 a2 (by omega) (by omega),aL,dg,Tl.body,Ms.base,Ms.zero,Fl.zero,h,hk]
 ·simp [MC.bare,Rw.none,rw,h0,h3,h4,h8,h6,h10,h12,h14,h16,h23,h2,h24] at h
  have h24' : (op == 24) = false:=by simpa using h24
  simp [opP,Ms.partsT,Ms.ansT,bg,ansP,hans,h0,h3,h4,h8,h6,h10,h12,h14,h16,h23,h2,h24',bL 10 0 127 code _ a1 a2 (by omega) (by omega),aL,dg,Ms.base,Ms.zero,Fl.zero,h]
theorem Ms.back (M : Ms) (hr : M.right = true) : eP M.tree.kids = some M:=by
 have hr':=hr
 unfold Ms.right at hr
 simp only [Bool.and_eq_true] at hr
 obtain ⟨hc,hid,hg,he⟩:=hr
 have hi : 0 <= M.id /\ M.id <= 2147483647:=by simpa [inB] using hid
 have ho:=opP_tree M hg he
 have hn:=bL 2 0 2147483647 M.id (M.opT :: (if M.controls = [] then [] else [.mk 2 true 0 ⟨#[]⟩ (M.controls.map tctl)])) hi.1 hi.2 (by omega) (by omega)
 have hk : M.tree.kids = tnum 2 M.id :: M.opT :: (if M.controls = [] then [] else [.mk 2 true 0 ⟨#[]⟩ (M.controls.map tctl)]):=rfl
 unfold eP
 rw [hk,hn]
 simp only [Option.bind_some,ho]
 by_cases hz : M.controls = []
 ·have hM : { M with controls:=[] } = M:=by rw [<- hz]
  rw [if_pos hz,hM]
  simp [fd,dg,hr']
 ·rw [if_neg hz]
  have hM : ({ M with controls:=M.controls } : Ms) = M:=rfl
  simp [fd,aO,Tl.kids,ctlsP_map M.controls hc,hr']
theorem tlL_form {w : World} {S : Nat -> Prop} {t : Tl} {c : List Value} (h : TlL w S t c) : c.length = 5 /\ ∀ u ∈ c,u.oneCell' = true:=by
 obtain ⟨x0,x1,x2,x3,xA,xn,xc,e⟩:=ak h
 have e' : c = [.int .i64 x0,.bool x1,.int .i64 x2,.string x3,.slice xA xn xc]:=by simpa using congrArg Array.toList e
 subst e'
 refine ⟨rfl,fun u hu => ?_⟩
 simp at hu
 rcases hu with rfl | rfl | rfl | rfl | rfl <;> rfl
theorem RowOf.cells {α : Type} {k : Nat} {At : World -> (Nat -> Prop) -> α -> List Value -> Prop} {w : World} {S : Nat -> Prop} {q : Rw} {ts : List α} (hk : 0 < k) (h : RowOf k At w S q ts) :
  ∃ css : List (List Value),css.length = ts.length /\ (∀ c ∈ css,c.length = k) /\ (∀ (i : Nat) (t : α) (c : List Value),ts[i]? = some t -> css[i]? = some c -> At w S t c) /\ Sl w q.A css.flatten:=by
 obtain ⟨h1,h2,h3,h4⟩:=h
 have key : ∀ (n : Nat),n <= ts.length -> ∃ css : List (List Value),css.length = n /\ (∀ c ∈ css,c.length = k) /\ (∀ (i : Nat) (t : α) (c : List Value),ts[i]? = some t -> css[i]? = some c -> At w S t c /\ ∃ (b o : Nat),q.A = some ⟨b,o,none⟩ /\ (S b /\ b < w.heap.size) /\ ∀ (j : Nat) (u : Value),c[j]? = some u -> w.cell? ⟨b,o + i * k + j,none⟩ = some u):=by
  intro n
  induction n with
  | zero => intro _; exact ⟨[],rfl,fun c h => by simp at h,fun i t c _ h => by simp at h⟩
  | succ n ih =>
   intro hn
   obtain ⟨css,a1,a2,a3⟩:=ih (by omega)
   obtain ⟨b,o,c,q1,q2,q3,q4,q5⟩:=h4 n ts[n] (List.getElem?_eq_getElem (by omega))
   refine ⟨css ++ [c],by simp [a1],fun x hx => ?_,fun i t x ht hx => ?_⟩
   ·rcases List.mem_append.1 hx with hx | hx
    ·exact a2 x hx
    ·rw [List.mem_singleton.1 hx]; exact q3
   ·by_cases hi : i < n
    ·exact a3 i t x ht (by rwa [List.getElem?_append_left (by omega)] at hx)
    ·have hl : i < (css ++ [c]).length:=(List.getElem?_eq_some_iff.1 hx).1
     simp [a1] at hl
     obtain rfl : i = n:=by omega
     have hx' : c = x:=by rw [List.getElem?_append_right (by omega)] at hx; simpa [a1] using hx
     subst hx'
     have ht' : ts[i] = t:=by rw [List.getElem?_eq_getElem (by omega)] at ht; exact Option.some.inj ht
     subst ht'
     exact ⟨q5,b,o,q1,q2,q4⟩
 obtain ⟨css,a1,a2,a3⟩:=key ts.length (Nat.le_refl _)
 refine ⟨css,a1,a2,fun i t c ht hc => (a3 i t c ht hc).1,fun j u hu => ?_⟩
 have hjl : j < css.flatten.length:=(List.getElem?_eq_some_iff.1 hu).1
 have hfl : css.flatten.length = css.length * k:=by
  clear hu hjl a1 a3
  induction css with
  | nil => simp
  | cons c css ih => rw [List.flatten_cons,List.length_append,ih (fun x hx => a2 x (by simp [hx])),a2 c (by simp),List.length_cons,Nat.add_mul]; omega
 have hi : j / k < css.length:=by
  rw [hfl] at hjl
  exact Nat.div_lt_of_lt_mul (by rw [Nat.mul_comm]; exact hjl)
 have hmod:=Nat.mod_lt j hk
 have hdm : j / k * k + j % k = j:=by rw [Nat.mul_comm]; exact Nat.div_add_mod j k
 have hc : css[j / k]? = some css[j / k]:=List.getElem?_eq_getElem hi
 obtain ⟨-,b,o,q1,q2,q3⟩:=a3 (j / k) ts[j / k] _ (List.getElem?_eq_getElem (by omega)) hc
 have hf:=dC css a2 (j / k) _ hc (j % k) hmod
 rw [hdm,hu] at hf
 have:=q3 (j % k) u hf.symm
 exact ⟨b,o,q1,q2.2,by rw [Nat.add_assoc,hdm] at this; exact this⟩
theorem cz {k : Nat} : ∀ (css : List (List Value)),(∀ c ∈ css,c.length = k) -> css.flatten.length = css.length * k
 | [],_ => by simp
 | c :: css,h => by rw [List.flatten_cons,List.length_append,cz css (fun x hx => h x (by simp [hx])),h c (by simp),List.length_cons,Nat.add_mul]; omega
theorem row_block {α : Type} {k : Nat} {At : World -> (Nat -> Prop) -> α -> List Value -> Prop} {w : World} {S : Nat -> Prop} {blk : Nat} {T : TypeId} {cs : Array Value} (css : List (List Value)) (ts : List α) (h : Bk w blk T cs) (hcs : cs.toList = css.flatten) (hS : S blk) (hl : css.length = ts.length) (hm : ts.length <= maxLen)
  (hk : ∀ c ∈ css,c.length = k) (hA : ∀ (i : Nat) (t : α) (c : List Value),ts[i]? = some t -> css[i]? = some c -> At w S t c) : RowOf k At w S ⟨some ⟨blk,0,none⟩,ts.length,ts.length⟩ ts:=by
 refine ⟨rfl,Nat.le_refl _,hm,fun i d hd => ?_⟩
 have hi : i < ts.length:=(List.getElem?_eq_some_iff.1 hd).1
 have hc : css[i]? = some (css[i]'(by omega)):=List.getElem?_eq_getElem (by omega)
 refine ⟨blk,0,_,rfl,⟨hS,h.lt⟩,hk _ (List.mem_of_getElem? hc),fun j u hu => ?_,hA i d _ hd hc⟩
 have hj : j < k:=by rw [<- hk _ (List.mem_of_getElem? hc)]; exact (List.getElem?_eq_some_iff.1 hu).1
 have hf:=dC css hk i _ hc j hj
 rw [hu,<- hcs,Array.getElem?_toList] at hf
 rw [Nat.zero_add]
 exact (h.cell (i * k + j)).trans hf
theorem GRow.app {α : Type} {E : TypeId} {k : Nat} {At : World -> (Nat -> Prop) -> α -> List Value -> Prop} (hA : cq At) {w w3 : World} {B : Nat} {v v' : Value} {ds ts : List α} {css cts : List (List Value)}
  (hcl : css.length = ds.length) (hck : ∀ c ∈ css,c.length = k) (hvlt : ∀ g,v.ownBlock = some g -> B <= g /\ g < w.heap.size) (hall : ∀ (i : Nat) (d : α) (c : List Value),ds[i]? = some d -> css[i]? = some c -> At w (fun b => B <= b /\ v.ownBlock ≠ some b) d c)
  (htl : cts.length = ts.length) (htk : ∀ c ∈ cts,c.length = k) (htall : ∀ (i : Nat) (d : α) (c : List Value),ts[i]? = some d -> cts[i]? = some c -> At w (fun b => B <= b /\ v.ownBlock ≠ some b) d c)
  (hown3 : w3.ownsRow B E k v' (ds.length + ts.length) (css.flatten ++ cts.flatten)) (hgr : w.grownBy w3 v.ownBlock) (hat : v'.ownBlock = v.ownBlock \/ v'.ownBlock = some w.heap.size) : GRow E k At w3 B v' (ds ++ ts):=by
 have hne : ∀ b,b < w.heap.size -> v.ownBlock ≠ some b -> v'.ownBlock ≠ some b:=by
  intro b hb hn e
  rcases hat with h | h
  ·exact hn (h ▸ e)
  ·rw [h] at e; injection e with e; omega
 have hkeep : ∀ (d : α) (c : List Value),At w (fun b => B <= b /\ v.ownBlock ≠ some b) d c -> At w3 (fun b => B <= b /\ v'.ownBlock ≠ some b) d c:=fun d c h =>
  hA hgr.size (fun b hb hbl => hgr.block b hbl (fun e => hb.2 e.symm)) (fun b hb hbl => ⟨hb.1,hne b hbl hb.2⟩) d c h
 refine ⟨css ++ cts,by simp [hcl,htl],fun x hx => ?_,by rw [List.flatten_append,List.length_append]; exact hown3,fun i x y hx hy => ?_⟩
 ·rcases List.mem_append.1 hx with hx | hx
  ·exact hck x hx
  ·exact htk x hx
 ·by_cases hlt : i < ds.length
  ·rw [List.getElem?_append_left hlt] at hx
   rw [List.getElem?_append_left (by omega)] at hy
   exact hkeep x y (hall i x y hx hy)
  ·rw [List.getElem?_append_right (by omega)] at hx
   rw [List.getElem?_append_right (by omega),hcl] at hy
   exact hkeep x y (htall _ x y hx hy)
theorem GRow.lit {w : World} {B blk : Nat} {E : TypeId} {k : Nat} {α : Type} {At : World -> (Nat -> Prop) -> α -> List Value -> Prop} {cs : Array Value} (css : List (List Value)) (ts : List α) (h : Bk w blk E cs) (hcs : cs.toList = css.flatten) (hB : B <= blk) (hl : css.length = ts.length) (hm : ts.length <= maxLen)
  (hk : ∀ c ∈ css,c.length = k) (hA : ∀ (i : Nat) (t : α) (c : List Value),ts[i]? = some t -> css[i]? = some c -> At w (fun b => B <= b /\ b ≠ blk) t c) (hst : cq At) : GRow E k At w B (.slice (some ⟨blk,0,none⟩) ts.length ts.length) ts:=by
 refine ⟨css,hl,hk,⟨by rw [cz css hk,hl],.inr ⟨blk,ts.length,cs,rfl,hB,h,?_,hm,?_,?_⟩⟩,fun i d c hd hc => hst (Nat.le_refl _) (fun _ _ _ => rfl) (fun x hx _ => ⟨hx.1,fun e => hx.2 (by simpa [Value.ownBlock] using e.symm)⟩) d c (hA i d c hd hc)⟩
 ·exact Nat.le_refl _
 ·rw [<- Array.length_toList,hcs,cz css hk,hl]
 ·rw [hcs]; exact List.take_of_length_le (by rw [cz css hk,hl]; exact Nat.le_refl _)
abbrev TGrow (w : World) (B : Nat) (v : Value) (ts : List Tl) : Prop:=GRow 42 5 TlL w B v ts
theorem fX (w : World) (B : Nat) (v : Value) (ds : List Tl) (hG : TGrow w B v ds) (q : Rw) (ts : List Tl) (hq : RowOf 5 TlL w (fun b => B <= b /\ v.ownBlock ≠ some b) q ts) (hlen : ds.length + ts.length <= 1100000) (hB : B <= w.heap.size) :
  ∃ (A : Option Addr) (c : Nat) (w' : World),(Builtin.append_ #[40,40] 40 #[v,.slice q.A q.n q.c]).run Tryz.prog w = .ok (.slice A (ds.length + ts.length) c) w' ∧
   TGrow w' B (.slice A (ds.length + ts.length) c) (ds ++ ts) /\ w.grownBy w' v.ownBlock /\ ((Value.slice A (ds.length + ts.length) c).ownBlock = v.ownBlock \/ (Value.slice A (ds.length + ts.length) c).ownBlock = some w.heap.size):=by
 obtain ⟨i0,hi,hz0,hz1,hz2⟩:=info_parts aR
 obtain ⟨css,hcl,hck,hown,hall⟩:=hG
 obtain ⟨cts,htl,htk,htall,hsl⟩:=hq.cells (by omega)
 have hqn : q.n = ts.length:=hq.1
 have h1 : ∀ u ∈ cts.flatten,u.oneCell' = true:=by
  intro u hu
  obtain ⟨c,hc,huc⟩:=List.mem_flatten.1 hu
  obtain ⟨i,hi1,hi2⟩:=List.getElem_of_mem hc
  have hx : cts[i]? = some c:=by rw [List.getElem?_eq_getElem hi1,hi2]
  exact (tlL_form (htall i _ c (List.getElem?_eq_getElem (by omega)) hx)).2 u huc
 have hfl:=cz cts htk
 have key : ∃ v' w',(Builtin.append_ #[40,40] 40 #[v,.slice q.A q.n q.c]).run Tryz.prog w = .ok v' w' /\ w'.ownsRow B 42 5 v' (ds.length + ts.length) (css.flatten ++ cts.flatten) /\ w.grownBy w' v.ownBlock /\ (v'.ownBlock = v.ownBlock \/ v'.ownBlock = some w.heap.size):=by
  rcases hA : q.A with _ | ad
  ·have hn : cts.flatten = []:=by
    cases hh : cts.flatten with
    | nil => rfl
    | cons u r => obtain ⟨b,o,h,_⟩:=hsl 0 u (by rw [hh]; rfl); rw [hA] at h; cases h
   have hz : ts.length = 0:=by rw [hn] at hfl; simp at hfl; omega
   rw [hn,hz,hqn,hz]
   exact ⟨v,w,eu w B _ _ _ i0 5 Tryz.underlying40 hi v ds.length _ hown q.c,by simpa using hown,World.grownBy.refl w _,.inl rfl⟩
  ·have hcells : ∀ j u,cts.flatten[j]? = some u -> w.cell? (ad.add j) = some u:=by
    intro j u hu
    obtain ⟨b,o,h,_,hc⟩:=hsl j u hu
    rw [hA] at h
    injection h with h
    subst h
    have e2 : (⟨b,o,none⟩ : Addr).add j = ⟨b,o + j,none⟩:=by
     unfold Addr.add
     by_cases h0 : j = 0 <;> simp [h0]
    rw [e2]
    exact hc
   rw [hqn]
   obtain ⟨v',w',hrun,h2,h3,_,h5⟩:=run_append_own_at (P:=Tryz.prog) w B 40 40 42 i0 _ 5 64 Tryz.underlying40 hi hz0 hz1 hz2 rfl (by decide) v ds.length _ hown ad ts.length q.c cts.flatten (by omega) hcells h1 (by unfold maxLen; omega) (by omega) hB
   exact ⟨v',w',hrun,h2,h3,h5⟩
 obtain ⟨v',w',hrun,h2,h3,h5⟩:=key
 obtain ⟨A,c,rfl,-,-⟩:=dI h2
 exact ⟨A,c,w',hrun,GRow.app au hcl hck hown.lt hall htl htk htall h2 h3 h5,h3,h5⟩
theorem wp_append_trees {o : Oper} {a : Act} {K : Act -> World -> Prop} {Q : Exit -> Act -> World -> Prop} (w : World) (s x : Operand)
  (ho : o.op = .call { callee:=.builtin .append,args:=#[s,x],argTypes:=#[40,40] }) (hty : o.type = 40)
  (B : Nat) (v : Value) (ds : List Tl) (hs : a.eval s = v) (hG : TGrow w B v ds) (q : Rw) (ts : List Tl) (hx : a.eval x = .slice q.A q.n q.c) (hq : RowOf 5 TlL w (fun b => B <= b /\ v.ownBlock ≠ some b) q ts) (hlen : ds.length + ts.length <= 1100000) (hB : B <= w.heap.size)
  (h : ∀ A c w',TGrow w' B (.slice A (ds.length + ts.length) c) (ds ++ ts) -> w.grownBy w' v.ownBlock -> ((Value.slice A (ds.length + ts.length) c).ownBlock = v.ownBlock \/ (Value.slice A (ds.length + ts.length) c).ownBlock = some w.heap.size) -> K (a.put o.dst (.slice A (ds.length + ts.length) c)) w') : o.wp Tryz.prog a w K Q:=by
 obtain ⟨A,c,w',hr,h2,h3,h4⟩:=fX w B v ds hG q ts hq hlen hB
 unfold Oper.wp execOp
 simp only [ho,hty,resolve,invoke,builtin,Sem.run_bind,Sem.run_pure,Result.andThen_ok,List.map_toArray,List.map_cons,List.map_nil,hs,hx,hr]
 exact h A c w' h2 h3 h4
theorem eM {ops : Array Oper} {rest : List Oper} {o : Oper} {a : Act} {Q : Exit -> Act -> World -> Prop} {w : World} (hgd : o.guard = none) (s x : Operand)
  (ho : o.op = .call { callee:=.builtin .append,args:=#[s,x],argTypes:=#[40,40] }) (hty : o.type = 40)
  (B : Nat) (v : Value) (ds : List Tl) (hs : a.eval s = v) (hG : TGrow w B v ds) (q : Rw) (ts : List Tl) (hx : a.eval x = .slice q.A q.n q.c) (hq : RowOf 5 TlL w (fun b => B <= b /\ v.ownBlock ≠ some b) q ts) (hlen : ds.length + ts.length <= 1100000) (hB : B <= w.heap.size)
  (h : ∀ A c w',TGrow w' B (.slice A (ds.length + ts.length) c) (ds ++ ts) -> w.grownBy w' v.ownBlock -> ((Value.slice A (ds.length + ts.length) c).ownBlock = v.ownBlock \/ (Value.slice A (ds.length + ts.length) c).ownBlock = some w.heap.size) -> wpList Tryz.prog ops Q rest (a.put o.dst (.slice A (ds.length + ts.length) c)) w') : wpList Tryz.prog ops Q (o :: rest) a w :=
 wpList_plain hgd fun _ hK => wp_append_trees w s x ho hty B v ds hs hG q ts hx hq hlen hB fun A c w' h2 h3 h4 => hK _ _ (h A c w' h2 h3 h4)
theorem one_row {w : World} {S : Nat -> Prop} {blk : Nat} {t : Tl} {x0 x2 : Int} {x1 : Bool} {x3 : ByteArray} {xA : Option Addr} {xn xc : Nat} (h : Bk w blk 42 #[.int .i64 x0,.bool x1,.int .i64 x2,.string x3,.slice xA xn xc]) (hS : S blk)
  (ht : TlAt w S t #[.int .i64 x0,.bool x1,.int .i64 x2,.string x3,.slice xA xn xc]) : RowOf 5 TlL w S ⟨some ⟨blk,0,none⟩,1,1⟩ [t] :=
 row_block [[.int .i64 x0,.bool x1,.int .i64 x2,.string x3,.slice xA xn xc]] [t] h rfl hS rfl (by show 1 <= _; unfold maxLen; omega) (by simp) (fun i a c ha hc => by
  cases i with
  | zero =>
   obtain rfl : t = a:=by simpa using ha
   obtain rfl : _ = c:=by simpa using hc
   exact ht
  | succ i => simp at ha)
def Ms.only (m : Ms) : Ms :=
 let b : Ms:={ Ms.zero with id:=m.id,op:=m.op,controls:=m.controls }
 if m.op = 0 then
  if m.sasl then { b with version:=m.version,name:=m.name,sasl:=m.sasl,kind:=m.kind,has:=m.has,value:=m.value } else { b with version:=m.version,name:=m.name,secret:=m.secret }
 else if m.op = 3 then { b with name:=m.name,scope:=m.scope,deref:=m.deref,size:=m.size,time:=m.time,types:=m.types,filter:=m.filter,attrs:=m.attrs }
 else if m.op = 4 \/ m.op = 8 then { b with name:=m.name,list:=m.list }
 else if m.op = 6 then { b with name:=m.name,mods:=m.mods }
 else if m.op = 10 then { b with name:=m.name }
 else if m.op = 12 then { b with name:=m.name,rdn:=m.rdn,old:=m.old,dest:=m.dest }
 else if m.op = 14 then { b with name:=m.name,kind:=m.kind,value:=m.value }
 else if m.op = 16 then { b with other:=m.other }
 else if m.op = 23 then { b with kind:=m.kind,has:=m.has,value:=m.value }
 else if m.op = 2 then b
 else if m.op = 24 then { b with code:=m.code,name:=m.name,text:=m.text,kind:=m.kind }
 else { b with code:=m.code,name:=m.name,text:=m.text }
theorem dv {op : Int} (sasl : Bool) (h : aM op = true) : (op = 0 /\ sasl = true) \/ (op = 0 /\ sasl = false) \/ op = 3 \/ op = 4 \/ op = 8 \/ op = 6 \/ op = 10 \/ op = 12 \/ op = 14 \/ op = 16 \/ op = 23 \/ op = 2 \/ op = 24 \/ op = 1 \/ op = 5 \/ op = 7 \/ op = 9 \/ op = 11 \/ op = 13 \/ op = 15:=by
 have:=known_cases h
 cases sasl <;> simp <;> omega
theorem Ms.only_id (M : Ms) : M.only.id = M.id:=by
 unfold Ms.only
 simp only [apply_ite Ms.id,ite_self]
theorem Ms.only_op (M : Ms) : M.only.op = M.op:=by
 unfold Ms.only
 simp only [apply_ite Ms.op,ite_self]
theorem MsAt.only {w : World} {S : Nat -> Prop} {M : Ms} {m : MC} (h : MsAt w S M m) (hk : aM M.op = true) : MsAt w S M.only m.only:=by
 obtain ⟨f,at',li,mo,de,co,rfl,hfit,hfl,hat,hli,hmo,hde,hco⟩:=h
 obtain ⟨id,op,version,name,sasl,secret,kind,has,value,code,text,scope,deref,size,time,types,filter,attrs,list,mods,rdn,old,dest,other,controls⟩:=M
 unfold Ms.fits at hfit
 simp only at hfit hk hfl hat hli hmo hde hco
 obtain ⟨z1,z2,z3,z4,z5,z6⟩:=hfit
 have z0 : (⟨#[]⟩ : ByteArray).size <= maxLen:=Nat.zero_le _
 have n1 : SRow w S Rw.none []:=RowOf.nil _ _
 have n2 : RowOf 2 bQ w S Rw.none []:=RowOf.nil _ _
 have n3 : RowOf 3 dy w S Rw.none []:=RowOf.nil _ _
 have n4:=di w S
 rcases dv sasl hk with ⟨h,h'⟩ | ⟨h,h'⟩ | h | h | h | h | h | h | h | h | h | h | h | h | h | h | h | h | h | h
 all_goals
  subst h
  try subst h'
  refine ⟨_,_,_,_,_,_,rfl,?_,?_,?_,?_,?_,?_,?_⟩
 all_goals
  first
  | exact ⟨by first | exact z0 | assumption,by first | exact z0 | assumption,by first | exact z0 | assumption,by first | exact z0 | assumption,by first | exact z0 | assumption,by first | exact z0 | assumption⟩
  | exact hfl
  | exact n4
  | exact hat
  | exact hli
  | exact hmo
  | exact hde
  | exact hco
  | exact n1
  | exact n2
  | exact n3
theorem Ms.only_eq (M : Ms) (hk : aM M.op = true) (he : M.lens.bare.empty = true) : M.only = M:=by
 have h:=MC.empty_all _ he
 clear he
 obtain ⟨id,op,version,name,sasl,secret,kind,has,value,code,text,scope,deref,size,time,types,filter,attrs,list,mods,rdn,old,dest,other,controls⟩:=M
 obtain ⟨fk,fa,fv,ff,fany,fl,fkids⟩:=filter
 simp only [Ms.lens,Ms.mc,Fl.lens] at h
 rcases dv sasl hk with ⟨h0,h'⟩ | ⟨h0,h'⟩ | h0 | h0 | h0 | h0 | h0 | h0 | h0 | h0 | h0 | h0 | h0 | h0 | h0 | h0 | h0 | h0 | h0 | h0
 all_goals
  subst h0
  try subst h'
  simp [MC.bare,Rw.none,rw,FC.zero] at h
  simp [Ms.only,Ms.zero,Fl.zero,h]
theorem Ms.only_lens (M : Ms) (hk : aM M.op = true) (h : M.lens = M.only.lens) : M.lens.bare.empty = true:=by
 obtain ⟨id,op,version,name,sasl,secret,kind,has,value,code,text,scope,deref,size,time,types,filter,attrs,list,mods,rdn,old,dest,other,controls⟩:=M
 obtain ⟨fk,fa,fv,ff,fany,fl,fkids⟩:=filter
 rcases dv sasl hk with ⟨h0,h'⟩ | ⟨h0,h'⟩ | h0 | h0 | h0 | h0 | h0 | h0 | h0 | h0 | h0 | h0 | h0 | h0 | h0 | h0 | h0 | h0 | h0 | h0
 all_goals
  subst h0
  try subst h'
  simp [Ms.only,Ms.lens,Ms.mc,Ms.zero,Fl.lens,Fl.zero,rw] at h
  simp [Ms.lens,Ms.mc,Fl.lens,MC.bare,FC.zero,Rw.none,MC.empty,MC.nums,MC.txts,MC.trus,MC.rows,MC.fils,aj,rw,h]
theorem Ms.only_rows (M : Ms) (hk : aM M.op = true) : (M.only.filter = M.filter \/ M.only.filter = Fl.zero) /\ (M.only.attrs = M.attrs \/ M.only.attrs = []) /\ (M.only.dest = M.dest \/ M.only.dest = []):=by
 obtain ⟨id,op,version,name,sasl,secret,kind,has,value,code,text,scope,deref,size,time,types,filter,attrs,list,mods,rdn,old,dest,other,controls⟩:=M
 rcases dv sasl hk with ⟨h0,h'⟩ | ⟨h0,h'⟩ | h0 | h0 | h0 | h0 | h0 | h0 | h0 | h0 | h0 | h0 | h0 | h0 | h0 | h0 | h0 | h0 | h0 | h0
 all_goals
  subst h0
  try subst h'
  simp [Ms.only,Ms.zero]
def mdOk (l : List Md) : Bool:=l.all fun x => inB x.1 0 2
def Ms.bad14 (M : Ms) : Bool:=(M.op == 0 && (decide (M.version < 1) || decide (127 < M.version))) || (M.op == 3 && !M.filter.right)
def Ms.bad16 (M : Ms) : Bool:=(M.op != 14 && (!M.has && aj M.value)) || decide (1 < M.dest.length)
def Ms.inAll (M : Ms) : Bool:=inB M.scope 0 2 && (inB M.deref 0 3 && (inB M.size 0 2147483647 && (inB M.time 0 2147483647 && (inB M.other 0 2147483647 && inB M.code 0 127))))
def Ms.good2 (M : Ms) : Bool:=aM M.op && (inB M.id 0 2147483647 && M.lens.bare.empty)
def Ms.rright (M : Ms) : Bool:=M.good2 && (M.ctlsOk && (mdOk M.mods && (!M.bad14 && (!M.bad16 && M.inAll))))
theorem inB_iff {n lo hi : Int} : inB n lo hi = true ↔ lo <= n /\ n <= hi:=by simp [inB]
theorem inB_zero {hi : Int} (h : 0 <= hi) : inB 0 0 hi = true:=inB_iff.2 ⟨Int.le_refl _,h⟩
theorem full_zero' : aj ⟨#[]⟩ = false:=by unfold aj; simp [ByteArray.toList_eq]
theorem ver_in (v : Int) : (!decide (v < 1) && !decide (127 < v)) = inB v 1 127:=by
 rw [Bool.eq_iff_iff,inB_iff]
 simp
theorem Ms.known_ranged (M : Ms) (h : M.ranged = true) : aM M.op = true:=by
 unfold Ms.ranged at h
 unfold aM
 by_cases h0 : M.op = 0
 ·simp [h0]
 rw [if_neg h0] at h
 by_cases h3 : M.op = 3
 ·simp [h3]
 rw [if_neg h3] at h
 by_cases h6 : M.op = 6
 ·simp [h6]
 rw [if_neg h6] at h
 by_cases h12 : M.op = 12
 ·simp [h12]
 rw [if_neg h12] at h
 by_cases h16 : M.op = 16
 ·simp [h16]
 rw [if_neg h16] at h
 by_cases h23 : M.op = 23
 ·simp [h23]
 rw [if_neg h23] at h
 by_cases hr : M.op = 2 \/ M.op = 4 \/ M.op = 8 \/ M.op = 10 \/ M.op = 14
 ·rcases hr with h | h | h | h | h <;> simp [h]
 rw [if_neg hr,Bool.and_eq_true] at h
 simp [h.1]
theorem Ms.rest_ranged (M : Ms) (hk : aM M.op = true) (he : M.lens.bare.empty = true) : (mdOk M.mods && (!M.bad14 && (!M.bad16 && M.inAll))) = M.ranged:=by
 have h:=MC.empty_all _ he
 clear he
 obtain ⟨id,op,version,name,sasl,secret,kind,has,value,code,text,scope,deref,size,time,types,filter,attrs,list,mods,rdn,old,dest,other,controls⟩:=M
 obtain ⟨F,hF⟩ : ∃ F,F = filter:=⟨_,rfl⟩
 obtain ⟨fk,fa,fv,ff,fany,fl,fkids⟩:=filter
 simp only [Ms.lens,Ms.mc,Fl.lens] at h
 rcases dv sasl hk with ⟨h0,h'⟩ | ⟨h0,h'⟩ | h0 | h0 | h0 | h0 | h0 | h0 | h0 | h0 | h0 | h0 | h0 | h0 | h0 | h0 | h0 | h0 | h0 | h0
 all_goals
  subst h0
  try subst h'
  simp [MC.bare,Rw.none,rw,FC.zero] at h
  simp [Ms.bad14,Ms.bad16,Ms.inAll,Ms.ranged,mdOk,aD,inB_zero,full_zero',h]
 all_goals first
  | (rw [ver_in])
  | (generalize (Fl.mk fk fa fv ff fany fl fkids).right = a; generalize inB scope 0 2 = b; generalize inB deref 0 3 = c; generalize inB size 0 2147483647 = d; generalize inB time 0 2147483647 = e; cases a <;> cases b <;> cases c <;> cases d <;> cases e <;> rfl)
  | (by_cases hd : dest.length <= 1 <;> first | (rw [ab hd,ae (by omega)]; rfl) | (rw [ae hd,ab (by omega)]; rfl))
theorem Ms.rright_eq (M : Ms) : M.rright = M.right:=by
 unfold Ms.rright Ms.good2 Ms.right
 cases hi : inB M.id 0 2147483647
 ·simp
 cases he : M.lens.bare.empty
 ·simp
 cases hc : M.ctlsOk
 ·simp
 cases hk : aM M.op
 ·cases hr : M.ranged
  ·simp
  ·have:=M.known_ranged hr
   rw [hk] at this
   cases this
 ·have:=M.rest_ranged hk he
  simp [this]
theorem same01_nil (A B : Option Addr) (c d : Nat) (w : World) : Calls Tryz.prog 47 #[.slice A 0 c,.slice B 0 d] w (cU true w):=by
 go_enter Tryz.func47,Tryz.ntmps47
 go_wp2_with fail
 refine wp_loop_rounds 2 ?_
 repeat any_goals (rw [rounds_succ]; go_wp2_with fail)
 go_ret
 exact ⟨rfl,rfl⟩
theorem same19_zero (A1 A2 B1 B2 : Option Addr) (c1 c2 d1 d2 : Nat) (w : World) : Calls Tryz.prog 46 #[.agg #[.int .i64 0,.string ⟨#[]⟩,.string ⟨#[]⟩,.string ⟨#[]⟩,.slice A1 0 c1,.string ⟨#[]⟩,.slice A2 0 c2],.agg #[.int .i64 0,.string ⟨#[]⟩,.string ⟨#[]⟩,.string ⟨#[]⟩,.slice B1 0 d1,.string ⟨#[]⟩,.slice B2 0 d2]] w (aq true w):=by
 go_enter Tryz.func46,Tryz.ntmps46
 go_wp2_with fail
 refine wp_loop_rounds 2 ?_
 repeat any_goals (rw [rounds_succ]; go_wp2_with fail)
 refine wp_loop_rounds 2 ?_
 repeat any_goals (rw [rounds_succ]; go_wp2_with fail)
 go_ret
 exact ah rfl (((Below.refl _ w).alloc (Nat.le_refl _) _).alloc (by simp) _)
theorem cV {w : World} {S : Nat -> Prop} {f : FC} (h : FlAt w S Fl.zero f.cells) : ∃ (A1 A2 : Option Addr) (c1 c2 : Nat),f = ⟨0,⟨#[]⟩,⟨#[]⟩,⟨#[]⟩,⟨A1,0,c1⟩,⟨#[]⟩,⟨A2,0,c2⟩⟩:=by
 obtain ⟨k,a,v,g,⟨qA,qn,qc⟩,l,⟨rA,rn,rc⟩⟩:=f
 unfold Fl.zero FlAt at h
 obtain ⟨q,r,hc,-,hq,hr,-⟩:=h
 simp only [FC.cells,List.cons.injEq,Value.int.injEq,Value.string.injEq,Value.slice.injEq,and_true,true_and] at hc
 obtain ⟨rfl,rfl,rfl,rfl,⟨rfl,rfl,rfl⟩,rfl,rfl,rfl,rfl⟩:=hc
 have e1 : q.n = 0:=hq.1
 have e2 : r.n = 0:=hr.1
 exact ⟨q.A,r.A,q.c,r.c,by rw [e1,e2]⟩
theorem bk_second (w : World) (cs ds : Array Value) : Bk ((w.alloc (.cells cs 30)).alloc (.cells ds 30)) (w.heap.size + 1) 30 ds:=by
 have h:=Bk.new (w.alloc (.cells cs 30)) 30 ds
 have e : (w.alloc (.cells cs 30)).heap.size = w.heap.size + 1:=by simp
 rwa [e] at h
theorem same_flat (id op : Int) (m1 m2 : MC) (S1 S2 : Nat -> Prop) (w : World) (h1 : MsAt w S1 (Ms.base id op) m1) (h2 : MsAt w S2 (Ms.base id op) m2) :
  Calls Tryz.prog 12 #[.agg m1.cells,.agg m2.cells] w (aq true w):=by
 obtain ⟨f,⟨aA,an,ac⟩,⟨lA,ln,lc⟩,⟨mA,mn,mc⟩,⟨dA,dn,dc⟩,⟨oA,on,oc⟩,rfl,-,hfl,hat,hli,hmo,hde,hco⟩:=h1
 obtain ⟨f',⟨aA',an',ac'⟩,⟨lA',ln',lc'⟩,⟨mA',mn',mc'⟩,⟨dA',dn',dc'⟩,⟨oA',on',oc'⟩,rfl,-,hfl',hat',hli',hmo',hde',hco'⟩:=h2
 obtain ⟨A1,A2,k1,k2,rfl⟩:=cV hfl
 obtain ⟨A1',A2',k1',k2',rfl⟩:=cV hfl'
 obtain rfl : an = 0:=hat.1
 obtain rfl : ln = 0:=hli.1
 obtain rfl : mn = 0:=hmo.1
 obtain rfl : dn = 0:=hde.1
 obtain rfl : on = 0:=hco.1
 obtain rfl : an' = 0:=hat'.1
 obtain rfl : ln' = 0:=hli'.1
 obtain rfl : mn' = 0:=hmo'.1
 obtain rfl : dn' = 0:=hde'.1
 obtain rfl : on' = 0:=hco'.1
 clear hfl hat hli hmo hde hco hfl' hat' hli' hmo' hde' hco'
 have HB:=aa (((Below.refl w.heap.size w).alloc (Nat.le_refl _) (.cells ((Ms.base id op).mc ⟨0,⟨#[]⟩,⟨#[]⟩,⟨#[]⟩,⟨A1,0,k1⟩,⟨#[]⟩,⟨A2,0,k2⟩⟩ ⟨aA,0,ac⟩ ⟨lA,0,lc⟩ ⟨mA,0,mc⟩ ⟨dA,0,dc⟩ ⟨oA,0,oc⟩).cells 30)).alloc (by simp) (.cells ((Ms.base id op).mc ⟨0,⟨#[]⟩,⟨#[]⟩,⟨#[]⟩,⟨A1',0,k1'⟩,⟨#[]⟩,⟨A2',0,k2'⟩⟩ ⟨aA',0,ac'⟩ ⟨lA',0,lc'⟩ ⟨mA',0,mc'⟩ ⟨dA',0,dc'⟩ ⟨oA',0,oc'⟩).cells 30))
 obtain ⟨cs,hcs⟩ : ∃ cs,cs = ((Ms.base id op).mc ⟨0,⟨#[]⟩,⟨#[]⟩,⟨#[]⟩,⟨A1,0,k1⟩,⟨#[]⟩,⟨A2,0,k2⟩⟩ ⟨aA,0,ac⟩ ⟨lA,0,lc⟩ ⟨mA,0,mc⟩ ⟨dA,0,dc⟩ ⟨oA,0,oc⟩).cells:=⟨_,rfl⟩
 obtain ⟨ds,hds⟩ : ∃ ds,ds = ((Ms.base id op).mc ⟨0,⟨#[]⟩,⟨#[]⟩,⟨#[]⟩,⟨A1',0,k1'⟩,⟨#[]⟩,⟨A2',0,k2'⟩⟩ ⟨aA',0,ac'⟩ ⟨lA',0,lc'⟩ ⟨mA',0,mc'⟩ ⟨dA',0,dc'⟩ ⟨oA',0,oc'⟩).cells:=⟨_,rfl⟩
 rw [<- hcs,<- hds] at HB
 rw [<- hcs,<- hds]
 have c0 : cs[0]? = some (.int .i64 id):=by rw [hcs]; rfl
 have c1 : cs[1]? = some (.int .i64 op):=by rw [hcs]; rfl
 have c2 : cs[2]? = some (.int .i64 0):=by rw [hcs]; rfl
 have c3 : cs[3]? = some (.string ⟨#[]⟩):=by rw [hcs]; rfl
 have c4 : cs[4]? = some (.bool false):=by rw [hcs]; rfl
 have c5 : cs[5]? = some (.string ⟨#[]⟩):=by rw [hcs]; rfl
 have c6 : cs[6]? = some (.string ⟨#[]⟩):=by rw [hcs]; rfl
 have c7 : cs[7]? = some (.bool false):=by rw [hcs]; rfl
 have c8 : cs[8]? = some (.string ⟨#[]⟩):=by rw [hcs]; rfl
 have c9 : cs[9]? = some (.int .i64 0):=by rw [hcs]; rfl
 have c10 : cs[10]? = some (.string ⟨#[]⟩):=by rw [hcs]; rfl
 have c11 : cs[11]? = some (.int .i64 0):=by rw [hcs]; rfl
 have c12 : cs[12]? = some (.int .i64 0):=by rw [hcs]; rfl
 have c13 : cs[13]? = some (.int .i64 0):=by rw [hcs]; rfl
 have c14 : cs[14]? = some (.int .i64 0):=by rw [hcs]; rfl
 have c15 : cs[15]? = some (.bool false):=by rw [hcs]; rfl
 have c16 : cs[16]? = some (.int .i64 0):=by rw [hcs]; rfl
 have c17 : cs[17]? = some (.string ⟨#[]⟩):=by rw [hcs]; rfl
 have c18 : cs[18]? = some (.string ⟨#[]⟩):=by rw [hcs]; rfl
 have c19 : cs[19]? = some (.string ⟨#[]⟩):=by rw [hcs]; rfl
 have c20 : cs[20]? = some (.slice A1 0 k1):=by rw [hcs]; rfl
 have c21 : cs[21]? = some (.string ⟨#[]⟩):=by rw [hcs]; rfl
 have c22 : cs[22]? = some (.slice A2 0 k2):=by rw [hcs]; rfl
 have c23 : cs[23]? = some (.slice aA 0 ac):=by rw [hcs]; rfl
 have c24 : cs[24]? = some (.slice lA 0 lc):=by rw [hcs]; rfl
 have c25 : cs[25]? = some (.slice mA 0 mc):=by rw [hcs]; rfl
 have c26 : cs[26]? = some (.string ⟨#[]⟩):=by rw [hcs]; rfl
 have c27 : cs[27]? = some (.bool false):=by rw [hcs]; rfl
 have c28 : cs[28]? = some (.slice dA 0 dc):=by rw [hcs]; rfl
 have c29 : cs[29]? = some (.int .i64 0):=by rw [hcs]; rfl
 have c30 : cs[30]? = some (.slice oA 0 oc):=by rw [hcs]; rfl
 have d0 : ds[0]? = some (.int .i64 id):=by rw [hds]; rfl
 have d1 : ds[1]? = some (.int .i64 op):=by rw [hds]; rfl
 have d2 : ds[2]? = some (.int .i64 0):=by rw [hds]; rfl
 have d3 : ds[3]? = some (.string ⟨#[]⟩):=by rw [hds]; rfl
 have d4 : ds[4]? = some (.bool false):=by rw [hds]; rfl
 have d5 : ds[5]? = some (.string ⟨#[]⟩):=by rw [hds]; rfl
 have d6 : ds[6]? = some (.string ⟨#[]⟩):=by rw [hds]; rfl
 have d7 : ds[7]? = some (.bool false):=by rw [hds]; rfl
 have d8 : ds[8]? = some (.string ⟨#[]⟩):=by rw [hds]; rfl
 have d9 : ds[9]? = some (.int .i64 0):=by rw [hds]; rfl
 have d10 : ds[10]? = some (.string ⟨#[]⟩):=by rw [hds]; rfl
 have d11 : ds[11]? = some (.int .i64 0):=by rw [hds]; rfl
 have d12 : ds[12]? = some (.int .i64 0):=by rw [hds]; rfl
 have d13 : ds[13]? = some (.int .i64 0):=by rw [hds]; rfl
 have d14 : ds[14]? = some (.int .i64 0):=by rw [hds]; rfl
 have d15 : ds[15]? = some (.bool false):=by rw [hds]; rfl
 have d16 : ds[16]? = some (.int .i64 0):=by rw [hds]; rfl
 have d17 : ds[17]? = some (.string ⟨#[]⟩):=by rw [hds]; rfl
 have d18 : ds[18]? = some (.string ⟨#[]⟩):=by rw [hds]; rfl
 have d19 : ds[19]? = some (.string ⟨#[]⟩):=by rw [hds]; rfl
 have d20 : ds[20]? = some (.slice A1' 0 k1'):=by rw [hds]; rfl
 have d21 : ds[21]? = some (.string ⟨#[]⟩):=by rw [hds]; rfl
 have d22 : ds[22]? = some (.slice A2' 0 k2'):=by rw [hds]; rfl
 have d23 : ds[23]? = some (.slice aA' 0 ac'):=by rw [hds]; rfl
 have d24 : ds[24]? = some (.slice lA' 0 lc'):=by rw [hds]; rfl
 have d25 : ds[25]? = some (.slice mA' 0 mc'):=by rw [hds]; rfl
 have d26 : ds[26]? = some (.string ⟨#[]⟩):=by rw [hds]; rfl
 have d27 : ds[27]? = some (.bool false):=by rw [hds]; rfl
 have d28 : ds[28]? = some (.slice dA' 0 dc'):=by rw [hds]; rfl
 have d29 : ds[29]? = some (.int .i64 0):=by rw [hds]; rfl
 have d30 : ds[30]? = some (.slice oA' 0 oc'):=by rw [hds]; rfl
 clear hcs hds
 have t1 : (id != id) = false:=by simp
 have t2 : (op != op) = false:=by simp
 go_enter Tryz.func12,Tryz.ntmps12
 go_wp2_with (first
  | (go_at_call 46; refine (same19_zero A1 A2 A1' A2' k1 k2 k1' k2' _).mono ?_; rintro e w1 ⟨rfl,hb1⟩; have HB1:=aa hb1; have e1:=fun i => (af ((Bk.new w 30 cs).alloc (.cells ds 30)) hb1).cell i; have e2:=fun i => (af (bk_second w cs ds) hb1).cell i; clear hb1)
  | (go_at_call 47; refine (same01_nil _ _ _ _ _).mono ?_; rintro e w1 ⟨rfl,rfl⟩)
  | fail)
 refine wp_loop_rounds 2 ?_
 repeat any_goals (rw [rounds_succ]; go_wp2_with fail)
 refine wp_loop_rounds 2 ?_
 repeat any_goals (rw [rounds_succ]; go_wp2_with fail)
 refine wp_loop_rounds 2 ?_
 repeat any_goals (rw [rounds_succ]; go_wp2_with fail)
 go_ret
 exact ah rfl (HB.out.trans (HB1.out.mono HB.out.size))
end Go.Proofs.YtbiglfpikfjbpaaGreatDoor
