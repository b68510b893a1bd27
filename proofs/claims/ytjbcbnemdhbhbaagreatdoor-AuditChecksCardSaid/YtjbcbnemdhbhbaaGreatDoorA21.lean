import Derived.Test.YtjbcbnemdhbhbaaGreatDoorA1
import Derived.LoopN
import Derived.Deep.OwnRows
import Derived.RegionTactic
import Derived.BigRegion
import Derived.Test.YtjbcbnemdhbhbaaGreatDoorA0
import Derived.Sort.OwnSortedInts
import Derived.Shelf.SortM.Plain
import Derived.Shelf.SortM.SortNone
set_option maxRecDepth 100000
set_option linter.unusedVariables false
set_option linter.unusedSimpArgs false
set_option maxHeartbeats 40000000
open Go renaming Calls→aaf,Ending→acb,Value→No,World→AI,rounds_succ→abF,wp_loop_rounds→abP
open Go.Lib renaming hid→sh
open Go.RowKit renaming Below→IT
open Go.RowKit.Below renaming refl→BY
open Go.Value renaming int→acs
namespace Go.Proofs.YtjbcbnemdhbhbaaGreatDoor
open Go.Proofs.Tryz
open Go.RowKit
open Go.PlainAid
abbrev aG (t0:Int) (u0:Bool) (t1:Int) (u1:Bool) (t2:Int) (u2:Bool) (t3:Int) (u3:Bool):Array No:=
 #[.int .i64 t0,.bool u0,.int .i64 t1,.bool u1,.int .i64 t2,.bool u2,.int .i64 t3,.bool u3]
theorem Bk.eight{w:AI}{g:Nat}{t:TypeId}{c0 c1 c2 c3 c4 c5 c6 c7:No}(h:Bk w g t #[c0,c1,c2,c3,c4,c5,c6,c7]):
  w.cell? ⟨g,0,none⟩=some c0/\w.cell? ⟨g,1,none⟩=some c1/\w.cell? ⟨g,2,none⟩=some c2/\w.cell? ⟨g,3,none⟩=some c3/\w.cell? ⟨g,4,none⟩=some c4/\w.cell? ⟨g,5,none⟩=some c5/\w.cell? ⟨g,6,none⟩=some c6/\w.cell? ⟨g,7,none⟩=some c7:=
 ⟨by simpa using h.cell 0,by simpa using h.cell 1,by simpa using h.cell 2,by simpa using h.cell 3,by simpa using h.cell 4,by simpa using h.cell 5,by simpa using h.cell 6,by simpa using h.cell 7⟩
structure St where
 a:Option Int
 b:Option Int
 c:Option Int
 d:Option Int
def St.empty:St:=⟨none,none,none,none⟩
def St.cells (s:St):Array No:=aG (s.a.getD 0) s.a.isSome (s.b.getD 0) s.b.isSome (s.c.getD 0) s.c.isSome (s.d.getD 0) s.d.isSome
def mN (n:Int):Bool:=decide (0<=n)&&decide (n<=1099511627776)
def St.enter (s:St) (n:Int):St×Int×Int:=
 if mN n then
  match s.a,s.b,s.c,s.d with
  | none,_,_,_=>({ s with a:=some n },0,0)
  | some _,none,_,_=>({ s with b:=some n },1,0)
  | some _,some _,none,_=>({ s with c:=some n },2,0)
  | some _,some _,some _,none=>({ s with d:=some n },3,0)
  | some _,some _,some _,some _=>(s,0,9)
 else (s,0,1)
def St.at (s:St) (i:Int):Option Int:=if i=0 then s.a else if i=1 then s.b else if i=2 then s.c else if i=3 then s.d else none
def St.clear (s:St) (i:Int):St:=if i=0 then { s with a:=none } else if i=1 then { s with b:=none } else if i=2 then { s with c:=none } else if i=3 then { s with d:=none } else s
def St.leave (s:St) (i:Int):St×Int:=
 if i<0\/3<i then (s,1)else match s.at i with|none=>(s,7)|some _=>(s.clear i,0)
def St.reads (s:St) (i:Int):Int×Bool:=match s.at i with|none=>(0,false)|some n=>(n,true)
def eA (i e:Int) (g:Nat) (cs:Array No) (w:AI) (en:acb) (w':AI):Prop:=
 en= .returned (.tuple #[.int .i64 i,.int .i64 e])/\Bk w' g 195 cs/\ah [g] w w'
def dW (e:Int) (g:Nat) (cs:Array No) (w:AI) (en:acb) (w':AI):Prop:=
 en= .returned (.int .i64 e)/\Bk w' g 195 cs/\ah [g] w w'
theorem Qs(g:Nat)(n t0 t1 t2 t3:Int)(u1 u2 u3:Bool)(w:AI)(hb:Bk w g 195 (aG t0 false t1 u1 t2 u2 t3 u3))(h0:0<=n)(h1:n<=1099511627776):
  aaf prog 56 #[.pointer (some ⟨g,0,none⟩),.int .i64 n] w (eA 0 0 g (aG n true t1 u1 t2 u2 t3 u3) w):=by
 have HB:=sh hb;obtain⟨c0,c1,c2,c3,c4,c5,c6,c7⟩:=hb.eight;have g0:=hb.frozen 0;have g1:=hb.frozen 1;have q0:decide (n<0)=false:=by simp;omega
 have q1:decide (1099511627776<n)=false:=by simp;omega
 clear hb;go_enter func56,ntmps56
 go_wp2_with fail
 refine abP 5 ?_
 repeat any_goals (rw[abF];go_wp2_with fail)
 go_ret2
 exact⟨rfl,(HB.out.put 0 _).put 1 _,((ah.refl _ _).setCell (.inl (by simp)) _).setCell (.inl (by simp)) _⟩
theorem Qt(g:Nat)(n t0 t1 t2 t3:Int)(u2 u3:Bool)(w:AI)(hb:Bk w g 195 (aG t0 true t1 false t2 u2 t3 u3))(h0:0<=n)(h1:n<=1099511627776):
  aaf prog 56 #[.pointer (some ⟨g,0,none⟩),.int .i64 n] w (eA 1 0 g (aG t0 true n true t2 u2 t3 u3) w):=by
 have HB:=sh hb;obtain⟨c0,c1,c2,c3,c4,c5,c6,c7⟩:=hb.eight;have g0:=hb.frozen 2;have g1:=hb.frozen 3;have q0:decide (n<0)=false:=by simp;omega
 have q1:decide (1099511627776<n)=false:=by simp;omega
 clear hb;go_enter func56,ntmps56
 go_wp2_with fail
 refine abP 5 ?_
 repeat any_goals (rw[abF];go_wp2_with fail)
 go_ret2
 exact⟨rfl,(HB.out.put 2 _).put 3 _,((ah.refl _ _).setCell (.inl (by simp)) _).setCell (.inl (by simp)) _⟩
theorem Qu(g:Nat)(n t0 t1 t2 t3:Int)(u3:Bool)(w:AI)(hb:Bk w g 195 (aG t0 true t1 true t2 false t3 u3))(h0:0<=n)(h1:n<=1099511627776):
  aaf prog 56 #[.pointer (some ⟨g,0,none⟩),.int .i64 n] w (eA 2 0 g (aG t0 true t1 true n true t3 u3) w):=by
 have HB:=sh hb;obtain⟨c0,c1,c2,c3,c4,c5,c6,c7⟩:=hb.eight;have g0:=hb.frozen 4;have g1:=hb.frozen 5;have q0:decide (n<0)=false:=by simp;omega
 have q1:decide (1099511627776<n)=false:=by simp;omega
 clear hb;go_enter func56,ntmps56
 go_wp2_with fail
 refine abP 5 ?_
 repeat any_goals (rw[abF];go_wp2_with fail)
 go_ret2
 exact⟨rfl,(HB.out.put 4 _).put 5 _,((ah.refl _ _).setCell (.inl (by simp)) _).setCell (.inl (by simp)) _⟩
theorem Qv(g:Nat)(n t0 t1 t2 t3:Int)(w:AI)(hb:Bk w g 195 (aG t0 true t1 true t2 true t3 false))(h0:0<=n)(h1:n<=1099511627776):
  aaf prog 56 #[.pointer (some ⟨g,0,none⟩),.int .i64 n] w (eA 3 0 g (aG t0 true t1 true t2 true n true) w):=by
 have HB:=sh hb;obtain⟨c0,c1,c2,c3,c4,c5,c6,c7⟩:=hb.eight;have g0:=hb.frozen 6;have g1:=hb.frozen 7;have q0:decide (n<0)=false:=by simp;omega
 have q1:decide (1099511627776<n)=false:=by simp;omega
 clear hb;go_enter func56,ntmps56
 go_wp2_with fail
 refine abP 5 ?_
 repeat any_goals (rw[abF];go_wp2_with fail)
 go_ret2
 exact⟨rfl,(HB.out.put 6 _).put 7 _,((ah.refl _ _).setCell (.inl (by simp)) _).setCell (.inl (by simp)) _⟩
theorem Qw(g:Nat)(n t0 t1 t2 t3:Int)(w:AI)(hb:Bk w g 195 (aG t0 true t1 true t2 true t3 true))(h0:0<=n)(h1:n<=1099511627776):
  aaf prog 56 #[.pointer (some ⟨g,0,none⟩),.int .i64 n] w (eA 0 9 g (aG t0 true t1 true t2 true t3 true) w):=by
 have HB:=sh hb;obtain⟨c0,c1,c2,c3,c4,c5,c6,c7⟩:=hb.eight;have g0:=hb.frozen 8;have g1:=hb.frozen 9;have q0:decide (n<0)=false:=by simp;omega
 have q1:decide (1099511627776<n)=false:=by simp;omega
 clear hb;go_enter func56,ntmps56
 go_wp2_with fail
 refine abP 5 ?_
 repeat any_goals (rw[abF];go_wp2_with fail)
 go_ret2
 exact⟨rfl,HB.out,ah.refl _ _⟩
theorem Ix(g:Nat)(n:Int)(cs:Array No)(w:AI)(hb:Bk w g 195 cs)(h0:n<0\/1099511627776<n):
  aaf prog 56 #[.pointer (some ⟨g,0,none⟩),.int .i64 n] w (eA 0 1 g cs w):=by
 have HB:=sh hb;have hq:decide (n<0)=true\/(decide (n<0)=false/\decide (1099511627776<n)=true):=by simp;omega
 clear hb;rcases hq with q0|⟨q0,q1⟩;all_goals
  go_enter func56,ntmps56
  go_wp2_with fail
  go_ret2
  exact⟨rfl,HB.out,ah.refl _ _⟩
theorem xt(g:Nat)(n:Int)(s:St)(w:AI)(hb:Bk w g 195 s.cells):
  aaf prog 56 #[.pointer (some ⟨g,0,none⟩),.int .i64 n] w (eA (s.enter n).2.1 (s.enter n).2.2 g (s.enter n).1.cells w):=by
 cases hr:mN n with
 | false=>
  have e:s.enter n=(s,0,1):=by unfold St.enter;rw[hr];rfl
  rw[e];refine Ix g n s.cells w hb ?_;unfold mN at hr;simp at hr;omega
 | true=>
  have h2:0<=n/\n<=1099511627776:=by unfold mN at hr;simpa using hr
  have e:s.enter n=(match s.a,s.b,s.c,s.d with
   | none,_,_,_=>({ s with a:=some n },0,0)
   | some _,none,_,_=>({ s with b:=some n },1,0)
   | some _,some _,none,_=>({ s with c:=some n },2,0)
   | some _,some _,some _,none=>({ s with d:=some n },3,0)
   | some _,some _,some _,some _=>(s,0,9)):=by unfold St.enter;rw[hr];rfl
  rw[e];obtain⟨a,b,c,d⟩:=s;cases a with
  | none=>exact Qs g n _ _ _ _ _ _ _ w hb h2.1 h2.2
  | some a=>
   cases b with
   | none=>exact Qt g n _ _ _ _ _ _ w hb h2.1 h2.2
   | some b=>
    cases c with
    | none=>exact Qu g n _ _ _ _ _ w hb h2.1 h2.2
    | some c=>
     cases d with
     | none=>exact Qv g n _ _ _ _ w hb h2.1 h2.2
     | some d=>exact Qw g n _ _ _ _ w hb h2.1 h2.2
theorem Nl(g:Nat)(t0 t1 t2 t3:Int)(u1 u2 u3:Bool)(w:AI)(hb:Bk w g 195 (aG t0 false t1 u1 t2 u2 t3 u3)):
  aaf prog 60 #[.pointer (some ⟨g,0,none⟩),.int .i64 0] w (dW 7 g (aG t0 false t1 u1 t2 u2 t3 u3) w):=by
 have HB:=sh hb;obtain⟨c0,c1,c2,c3,c4,c5,c6,c7⟩:=hb.eight;have g0:=hb.frozen 0;have g1:=hb.frozen 1;clear hb;go_enter func60,ntmps60
 go_wp2_with fail
 go_ret
 exact⟨rfl,HB.out,ah.refl _ _⟩
theorem Nn(g:Nat)(t0 t1 t2 t3:Int)(u1 u2 u3:Bool)(w:AI)(hb:Bk w g 195 (aG t0 true t1 u1 t2 u2 t3 u3)):
  aaf prog 60 #[.pointer (some ⟨g,0,none⟩),.int .i64 0] w (dW 0 g (aG 0 false t1 u1 t2 u2 t3 u3) w):=by
 have HB:=sh hb;obtain⟨c0,c1,c2,c3,c4,c5,c6,c7⟩:=hb.eight;have g0:=hb.frozen 0;have g1:=hb.frozen 1;clear hb;go_enter func60,ntmps60
 go_wp2_with fail
 go_ret
 exact⟨rfl,(HB.out.put 0 _).put 1 _,((ah.refl _ _).setCell (.inl (by simp)) _).setCell (.inl (by simp)) _⟩
theorem Np(g:Nat)(t0 t1 t2 t3:Int)(u0 u2 u3:Bool)(w:AI)(hb:Bk w g 195 (aG t0 u0 t1 false t2 u2 t3 u3)):
  aaf prog 60 #[.pointer (some ⟨g,0,none⟩),.int .i64 1] w (dW 7 g (aG t0 u0 t1 false t2 u2 t3 u3) w):=by
 have HB:=sh hb;obtain⟨c0,c1,c2,c3,c4,c5,c6,c7⟩:=hb.eight;have g0:=hb.frozen 2;have g1:=hb.frozen 3;clear hb;go_enter func60,ntmps60
 go_wp2_with fail
 go_ret
 exact⟨rfl,HB.out,ah.refl _ _⟩
theorem Nq(g:Nat)(t0 t1 t2 t3:Int)(u0 u2 u3:Bool)(w:AI)(hb:Bk w g 195 (aG t0 u0 t1 true t2 u2 t3 u3)):
  aaf prog 60 #[.pointer (some ⟨g,0,none⟩),.int .i64 1] w (dW 0 g (aG t0 u0 0 false t2 u2 t3 u3) w):=by
 have HB:=sh hb;obtain⟨c0,c1,c2,c3,c4,c5,c6,c7⟩:=hb.eight;have g0:=hb.frozen 2;have g1:=hb.frozen 3;clear hb;go_enter func60,ntmps60
 go_wp2_with fail
 go_ret
 exact⟨rfl,(HB.out.put 2 _).put 3 _,((ah.refl _ _).setCell (.inl (by simp)) _).setCell (.inl (by simp)) _⟩
theorem Nr(g:Nat)(t0 t1 t2 t3:Int)(u0 u1 u3:Bool)(w:AI)(hb:Bk w g 195 (aG t0 u0 t1 u1 t2 false t3 u3)):
  aaf prog 60 #[.pointer (some ⟨g,0,none⟩),.int .i64 2] w (dW 7 g (aG t0 u0 t1 u1 t2 false t3 u3) w):=by
 have HB:=sh hb;obtain⟨c0,c1,c2,c3,c4,c5,c6,c7⟩:=hb.eight;have g0:=hb.frozen 4;have g1:=hb.frozen 5;clear hb;go_enter func60,ntmps60
 go_wp2_with fail
 go_ret
 exact⟨rfl,HB.out,ah.refl _ _⟩
theorem Ns(g:Nat)(t0 t1 t2 t3:Int)(u0 u1 u3:Bool)(w:AI)(hb:Bk w g 195 (aG t0 u0 t1 u1 t2 true t3 u3)):
  aaf prog 60 #[.pointer (some ⟨g,0,none⟩),.int .i64 2] w (dW 0 g (aG t0 u0 t1 u1 0 false t3 u3) w):=by
 have HB:=sh hb;obtain⟨c0,c1,c2,c3,c4,c5,c6,c7⟩:=hb.eight;have g0:=hb.frozen 4;have g1:=hb.frozen 5;clear hb;go_enter func60,ntmps60
 go_wp2_with fail
 go_ret
 exact⟨rfl,(HB.out.put 4 _).put 5 _,((ah.refl _ _).setCell (.inl (by simp)) _).setCell (.inl (by simp)) _⟩
theorem Nt(g:Nat)(t0 t1 t2 t3:Int)(u0 u1 u2:Bool)(w:AI)(hb:Bk w g 195 (aG t0 u0 t1 u1 t2 u2 t3 false)):
  aaf prog 60 #[.pointer (some ⟨g,0,none⟩),.int .i64 3] w (dW 7 g (aG t0 u0 t1 u1 t2 u2 t3 false) w):=by
 have HB:=sh hb;obtain⟨c0,c1,c2,c3,c4,c5,c6,c7⟩:=hb.eight;have g0:=hb.frozen 6;have g1:=hb.frozen 7;clear hb;go_enter func60,ntmps60
 go_wp2_with fail
 go_ret
 exact⟨rfl,HB.out,ah.refl _ _⟩
theorem Nu(g:Nat)(t0 t1 t2 t3:Int)(u0 u1 u2:Bool)(w:AI)(hb:Bk w g 195 (aG t0 u0 t1 u1 t2 u2 t3 true)):
  aaf prog 60 #[.pointer (some ⟨g,0,none⟩),.int .i64 3] w (dW 0 g (aG t0 u0 t1 u1 t2 u2 0 false) w):=by
 have HB:=sh hb;obtain⟨c0,c1,c2,c3,c4,c5,c6,c7⟩:=hb.eight;have g0:=hb.frozen 6;have g1:=hb.frozen 7;clear hb;go_enter func60,ntmps60
 go_wp2_with fail
 go_ret
 exact⟨rfl,(HB.out.put 6 _).put 7 _,((ah.refl _ _).setCell (.inl (by simp)) _).setCell (.inl (by simp)) _⟩
theorem Jl(g:Nat)(i:Int)(cs:Array No)(w:AI)(hb:Bk w g 195 cs)(h:i<0\/3<i):
  aaf prog 60 #[.pointer (some ⟨g,0,none⟩),.int .i64 i] w (dW 1 g cs w):=by
 have HB:=sh hb;have hq:decide (i<0)=true\/(decide (i<0)=false/\decide (4<=i)=true):=by simp;omega
 clear hb;rcases hq with q0|⟨q0,q1⟩;all_goals
  go_enter func60,ntmps60
  go_wp2_with fail
  go_ret
  exact⟨rfl,HB.out,ah.refl _ _⟩
theorem qx(g:Nat)(i:Int)(s:St)(w:AI)(hb:Bk w g 195 s.cells):
  aaf prog 60 #[.pointer (some ⟨g,0,none⟩),.int .i64 i] w (dW (s.leave i).2 g (s.leave i).1.cells w):=by
 by_cases h:i<0\/3<i
 ·have e:s.leave i=(s,1):=by unfold St.leave;rw[if_pos h]
  rw[e];exact Jl g i s.cells w hb h
 ·have hi:i=0\/i=1\/i=2\/i=3:=by omega
  obtain⟨a,b,c,d⟩:=s;rcases hi with rfl|rfl|rfl|rfl
  ·cases a with
   | none=>exact Nl g _ _ _ _ _ _ _ w hb
   | some a=>exact Nn g _ _ _ _ _ _ _ w hb
  ·cases b with
   | none=>exact Np g _ _ _ _ _ _ _ w hb
   | some b=>exact Nq g _ _ _ _ _ _ _ w hb
  ·cases c with
   | none=>exact Nr g _ _ _ _ _ _ _ w hb
   | some c=>exact Ns g _ _ _ _ _ _ _ w hb
  ·cases d with
   | none=>exact Nt g _ _ _ _ _ _ _ w hb
   | some d=>exact Nu g _ _ _ _ _ _ _ w hb
theorem x9(w:AI):aaf prog 101 #[] w fun e w'=>e= .returned (.pointer (some ⟨w.heap.size,0,none⟩))/\Bk w' w.heap.size 195 St.empty.cells/\IT w.heap.size w w':=by
 go_enter func101,ntmps101
 go_wp2_with fail
 go_ret
 exact⟨rfl,Bk.new _ _ _,(BY _ _).alloc (Nat.le_refl _) _⟩
end Go.Proofs.YtjbcbnemdhbhbaaGreatDoor
namespace Go.Proofs.YtjbcbnemdhbhbaaGreatDoor
open Go.Proofs.Tryz
open Go.RowKit
open Go.PlainAid Go.Sort Go.Shelf
set_option linter.unnecessarySimpa false
def vo (l:List Int):List Int:=l.mergeSort fun x y=>decide (x<=y)
theorem zC(l:List Int):(vo l).length=l.length:=by unfold vo;rw[List.length_mergeSort]
def Ln (base:Nat) (v:No) (zs:List Int) (w:AI) (e:acb) (w':AI):Prop:=
 e= .returned (.tuple #[])/\w'.ownsRow base 3 1 v zs.length ((vo zs).map (acs .i64))/\w.grownBy w' v.ownBlock
theorem vj(base:Nat)(v:No)(zs:List Int)(w:AI)(h:w.ownsRow base 3 1 v zs.length (zs.map (acs .i64)))(hl:zs.length<=1000):
  aaf prog 79 #[v] w (Ln base v zs w):=by
 have h0:=h;rcases h.2 with⟨rfl,hn⟩|⟨g,cap,cur,rfl,hb,hh,hc,hm,hs,ht⟩
 ·obtain rfl:zs=[]:=List.eq_nil_of_length_eq_zero hn
  refine(AnyM.slices_Sort_int_none Tryz.sortA none 0 w).mono ?_;rintro e w' ⟨rfl,rfl⟩;exact⟨rfl,by simpa[vo]using h0,World.grownBy.refl _ _⟩
 ·have hH:=holds_of_blockI (ss:=zs) hh (by rw[Nat.mul_one]at ht;exact ht)
  refine(AnyM.slices_Sort_int Tryz.sortA g 0 cap zs w hH (lt_of_block hh) (by omega)).mono ?_;rintro e w' ⟨rfl,n,os,rfl⟩;exact⟨rfl,ownsRow_sortedI (ts:=vo zs) (zC zs) hb hh hc hm hs,grownBy_sortedI _⟩
def St.liveK (s:St):Nat->List Int
 | 0=>[]
 | 1=>s.a.toList
 | 2=>s.a.toList++s.b.toList
 | 3=>s.a.toList++s.b.toList++s.c.toList
 | _=>s.a.toList++s.b.toList++s.c.toList++s.d.toList
def St.live (s:St):List Int:=s.a.toList++s.b.toList++s.c.toList++s.d.toList
theorem St.B4(s:St)(k:Nat):(s.liveK k).length<=4:=by
 obtain⟨a,b,c,d⟩:=s
 match k with
 | 0=>simp[St.liveK]
 | 1=>cases a<;>simp[St.liveK]
 | 2=>cases a<;>cases b<;>simp[St.liveK]
 | 3=>cases a<;>cases b<;>cases c<;>simp[St.liveK]
 | k+4=>cases a<;>cases b<;>cases c<;>cases d<;>simp[St.liveK]
def Lh (w:AI) (s:St) (k:Nat) (v:No) (wr:AI):Prop:=
 k<=4/\wr.ownsRow w.heap.size 3 1 v (s.liveK k).length ((s.liveK k).map (acs .i64))/\IT w.heap.size w wr
def tE (zs:List Int) (w:AI) (e:acb) (w':AI):Prop:=
 ∃v,e= .returned v/\w'.ownsRow w.heap.size 3 1 v zs.length (zs.map (acs .i64))/\IT w.heap.size w w'
theorem Jc:(prog.info? 3).map (fun i=>(i.zero,i.size,i.bytes))=some (some (.int .i64 0),1,8):=by kernel_rfl
theorem af3(t0 t1 t2 t3:Int)(u0 u1 u2 u3:Bool)(W:AI):(Instr.index 193 (.agg (aG t0 u0 t1 u1 t2 u2 t3 u3)) (.int .i64 0)).run prog W= .ok (.agg #[.int .i64 t0,.bool u0]) W:=by kernel_rfl
theorem af4(t0 t1 t2 t3:Int)(u0 u1 u2 u3:Bool)(W:AI):(Instr.index 193 (.agg (aG t0 u0 t1 u1 t2 u2 t3 u3)) (.int .i64 1)).run prog W= .ok (.agg #[.int .i64 t1,.bool u1]) W:=by kernel_rfl
theorem af5(t0 t1 t2 t3:Int)(u0 u1 u2 u3:Bool)(W:AI):(Instr.index 193 (.agg (aG t0 u0 t1 u1 t2 u2 t3 u3)) (.int .i64 2)).run prog W= .ok (.agg #[.int .i64 t2,.bool u2]) W:=by kernel_rfl
theorem af6(t0 t1 t2 t3:Int)(u0 u1 u2 u3:Bool)(W:AI):(Instr.index 193 (.agg (aG t0 u0 t1 u1 t2 u2 t3 u3)) (.int .i64 3)).run prog W= .ok (.agg #[.int .i64 t3,.bool u3]) W:=by kernel_rfl
theorem WE(W:AI)(e:TypeId)(v:No):Sl (W.alloc (.cells #[v] e)) (some ⟨W.heap.size,0,none⟩) [v]:=by
 intro j u hu;cases j with
 | zero=>
  simp at hu;subst hu;have hb:=Bk.new W e #[v];exact⟨W.heap.size,0,rfl,hb.lt,by simpa using hb.cell 0⟩
 | succ j=>simp at hu
theorem B5(g:Nat)(s:St)(w:AI)(hb:Bk w g 195 s.cells):
  aaf prog 62 #[.pointer (some ⟨g,0,none⟩)] w (tE (vo s.live) w):=by
 have HS:=sh (show Lh w s 0 (.slice none 0 0) w from ⟨by omega,World.ownsRow_nil _ _ _ _,BY _ _⟩);have vX:Bk w g 195 (aG (s.a.getD 0) s.a.isSome (s.b.getD 0) s.b.isSome (s.c.getD 0) s.c.isSome (s.d.getD 0) s.d.isSome):=hb;have HL:Hid (∀k,k<4->∃(t:Int) (u:Bool),(u=true/\s.liveK (k+1)=s.liveK k++[t]\/u=false/\s.liveK (k+1)=s.liveK k)/\∀W:AI,(Instr.index 193 (.agg (aG (s.a.getD 0) s.a.isSome (s.b.getD 0) s.b.isSome (s.c.getD 0) s.c.isSome (s.d.getD 0) s.d.isSome)) (.int .i64 (k:Int))).run prog W= .ok (.agg #[.int .i64 t,.bool u]) W):=by
  intro k hk;obtain⟨a,b,c,d⟩:=s;have:k=0\/k=1\/k=2\/k=3:=by omega
  rcases this with rfl|rfl|rfl|rfl
  ·exact⟨_,_,by cases a<;>simp[St.liveK],af3 _ _ _ _ _ _ _ _⟩
  ·exact⟨_,_,by cases b<;>simp[St.liveK],af4 _ _ _ _ _ _ _ _⟩
  ·exact⟨_,_,by cases c<;>simp[St.liveK],af5 _ _ _ _ _ _ _ _⟩
  ·exact⟨_,_,by cases d<;>simp[St.liveK],af6 _ _ _ _ _ _ _ _⟩
 generalize s.a.getD 0=t0 at *;generalize s.a.isSome=b0 at *;generalize s.b.getD 0=t1 at *;generalize s.b.isSome=b1 at *;generalize s.c.getD 0=t2 at *;generalize s.c.isSome=b2 at *;generalize s.d.getD 0=t3 at *;generalize s.d.isSome=b3 at *;obtain⟨c0,c1,c2,c3,c4,c5,c6,c7⟩:=vX.eight;have HG:=sh vX.lt;clear hb vX;go_enter func62,ntmps62
 go_wp2_with fail
 clear c0 c1 c2 c3 c4 c5 c6 c7;go_loopw [3,12] (fun v i wr=>∃k:Nat,i= .int .i64 k/\Lh w s k v wr) (fun _ i _=>4-(intOf i).toNat)
 case atStart=>exact⟨0,rfl,HS.out⟩
 case round=>
  clear HS;obtain⟨k,rfl,hk,aq,fV⟩:=hrel;have iV:=s.B4 k;by_cases h4:k<4
  ·obtain⟨t,u,hu,Vv⟩:=HL.out k h4
   have FY:=sh fV;have Jb:=fV.size;rcases hu with⟨rfl,S8⟩|⟨rfl,S8⟩
   ·have HLK:=sh S8
    have ft:=sh ((aq.alloc (.cells #[.int .i64 t,.bool true] 192)).alloc (.cells #[.int .i64 t] 3));obtain⟨i0,hi,BR,pS,zi⟩:=info_parts Jc;clear S8 fV aq;have vO:=sh (show Sl ((wr.alloc (.cells #[.int .i64 t,.bool true] 192)).alloc (.cells #[.int .i64 t] 3)) (some ⟨wr.heap.size+1,0,none⟩) [.int .i64 t]by
     have:=WE (wr.alloc (.cells #[.int .i64 t,.bool true] 192)) 3 (.int .i64 t);simpa using this)
    go_wp2_with (at_builtin;refine aM _ rfl (.tmp 17) (.tmp 20) 51 rfl w.heap.size 3 i0 (.int .i64 0) 8 underlying51 hi BR pS zi rfl u3 _ _ rfl ft.out (some ⟨wr.heap.size+1,0,none⟩) 1 1 [.int .i64 t] rfl rfl vO.out (by simp[Value.oneCell']) (by unfold maxLen;omega) (by omega) (by simp;omega) ?_;intro v5 w5 rq zb IM)
    have cV:IT w.heap.size w w5:=((FY.out.alloc Jb _).alloc (by simp;omega) _).grown zb (by simp;omega) (fun k hk=>((ft.out).lt k hk).1);go_roundw
    case rel=>exact⟨k+1,by go_num,by omega,by rw[HLK.out];simpa using rq,cV⟩
    case measure=>simp[intOf];omega
   ·have HLK:=sh S8
    have ft:=sh (aq.alloc (.cells #[.int .i64 t,.bool false] 192));clear S8 fV aq;go_wp2_with fail
    go_roundw
    case rel=>exact⟨k+1,by go_num,by omega,by rw[HLK.out];exact ft.out,FY.out.alloc Jb _⟩
    case measure=>simp[intOf];omega
  ·obtain rfl:k=4:=by omega
   have Uo:=sh (vj w.heap.size u3 (s.liveK 4) wr aq (by omega));have FY:=sh fV;have ft:=sh aq;rw[show ((4:Nat):Int)=4 from rfl];clear aq fV HL hk h4;go_wp2_with fail
   refine Uo.out.mono ?_;rintro e w6 ⟨rfl,cQ,Vs⟩;have ga:IT w.heap.size w w6:=FY.out.grown Vs FY.out.size (fun k hk=>(ft.out.lt k hk).1);go_wp2_with fail
   go_ret
   exact⟨_,rfl,by rw[zC];exact cQ,ga⟩
def Lq (n:Int) (w:AI) (e:acb) (w':AI):Prop:=e= .returned (.int .i64 n)/\IT w.heap.size w w'
theorem yn{n m:Int}{w w':AI}(h:n=m)(hb:IT w.heap.size w w'):Lq n w (.returned (.int .i64 m)) w':=by subst h;exact⟨rfl,hb⟩
def oldestOf (l:List Int) (now:Int):Int:=match l with|[]=>now|x::_=>min now x
def St.di (s:St) (now:Int):Int:=oldestOf (vo s.live) now
theorem E9(g:Nat)(now:Int)(s:St)(w:AI)(hb:Bk w g 195 s.cells):
  aaf prog 170 #[.pointer (some ⟨g,0,none⟩),.int .i64 now] w (Lq (s.di now) w):=by
 have HL:=B5 g s w hb;have HE:=sh (show s.di now=oldestOf (vo s.live) now from rfl);have De:(vo s.live).length<=4:=by rw[zC];exact s.B4 4
 generalize vo s.live=zs at *;have Dz:=sh HL;clear HL hb;go_enter func170,ntmps170
 go_wp2_with fail
 refine Dz.out.mono ?_;rintro e w1 ⟨v,rfl,aq,ar⟩;obtain⟨A,c,rfl,sV,Ef,hn,fJ,_⟩:=bg aq;have bh:=sh ar;clear aq ar hn;cases zs with
 | nil=>
  clear fJ;go_wp2_with fail
  go_ret
  exact yn (by rw[HE.out];rfl) bh.out
 | cons x l=>
  obtain⟨b,o,rfl,aH,gb⟩:=fJ 0 (.int .i64 x) rfl;simp only[Nat.add_zero]at gb;have hl2:l.length<=3:=by simpa using De
  rw[show ((x::l).length)=l.length+1 from rfl];rw[show ((x::l).length)=l.length+1 from rfl]at sV;have HE2:=sh (show s.di now=min now x from HE.out);generalize l.length=m at *;clear fJ De HE;go_wp2_with fail
  go_ret
  exact yn HE2.out bh.out
end Go.Proofs.YtjbcbnemdhbhbaaGreatDoor
