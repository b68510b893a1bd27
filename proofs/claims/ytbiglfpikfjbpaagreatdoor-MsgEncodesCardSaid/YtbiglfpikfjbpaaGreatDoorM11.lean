import Derived.Test.YtbiglfpikfjbpaaGreatDoorChecked
import Derived.WalkKit
import Derived.WalkSpells
import Derived.WalkLawsBesides
import Derived.RegionTactic
import Derived.Lib.Hide
import Derived.Lib.Builder
import Derived.Lib.AppendStr
import Derived.Lib.UnsafeStr
import Derived.Lib.Slices
import Derived.Lib.Strings
import Derived.Laws.Externs
import Derived.Outline
import Derived.Test.YtbiglfpikfjbpaaGreatDoorM2
import Derived.Test.YtbiglfpikfjbpaaGreatDoorM1
import Derived.Test.YtbiglfpikfjbpaaGreatDoorM0
import Derived.StillTailTactics
import Derived.Deep.RegionWith
import Derived.Lib.FrozenHead
import Derived.Laws.IdiomStrings
namespace Go.Proofs.YtbiglfpikfjbpaaGreatDoor
open Go.RowKit
open Go.PlainAid
set_option maxRecDepth 100000
set_option linter.unusedVariables false
set_option linter.unusedSimpArgs false
set_option maxHeartbeats 40000000
theorem sb_size : (Tryz.prog.info? 124).map (·.size) = some 2:=by kernel_rfl
theorem sb_lies : liesAt Tryz.prog Tryz.prog.depth 124 (2 / Tryz.prog.cellsOf 124) 0 124 1 = true:=by kernel_rfl
theorem sb_info : (Tryz.prog.info? 5).map (fun i => (i.zero,i.size,i.bytes)) = some (some (.int .u8 0),1,1):=by kernel_rfl
theorem sb_cells : Tryz.prog.cellsOf 5 = 1:=by kernel_rfl
theorem sb_ne : (124 : TypeId) ≠ 5:=by decide
def SB (B b : Nat) (l : List UInt8) (w : World) : Prop:=Lib.IsBuilder 124 5 B b (Lib.byteCells l) w
theorem sb_check_used (b : Nat) (w : World) (h0 : w.cell? ⟨b,0,none⟩ = some (.pointer (some ⟨b,0,none⟩))) :
  Calls Tryz.prog 100 #[.pointer (some ⟨b,0,none⟩)] w fun e w' => e = .returned (.tuple #[]) /\ w' = w:=by
 obtain ⟨j,hj,_⟩:=Option.map_eq_some_iff.1 sb_size
 go_enter Tryz.func100,Tryz.ntmps100
 go_wp2
 rw [Lib.run_neq_ptr_same w _ Tryz.underlying122 hj]
 go_wp2
 go_end0
 exact ⟨rfl,rfl⟩
theorem sb_check_fresh (b : Nat) (w : World) (h0 : w.cell? ⟨b,0,none⟩ = some (.pointer none)) (hsh : w.shape? b = some (124,2)) (hfz : w.frozen? ⟨b,0,none⟩ = false) :
  Calls Tryz.prog 100 #[.pointer (some ⟨b,0,none⟩)] w fun e w' => e = .returned (.tuple #[]) /\ w' = w.setCell ⟨b,0,none⟩ (.pointer (some ⟨b,0,none⟩)):=by
 obtain ⟨j,hj,hjs⟩:=Option.map_eq_some_iff.1 sb_size
 go_enter Tryz.func100,Tryz.ntmps100
 go_wp2
 rw [Lib.run_to_unsafe w ⟨b,0,none⟩ Tryz.underlying122 Tryz.underlying142 hj (by rw [hjs]; decide) hsh (Nat.zero_lt_succ 1)]
 simp only [Result.andThen]
 rw [Oper.upon_value]
 go_wp2
 rw [run_callFunc_extern Tryz.func107 (by kernel_rfl) (by kernel_rfl) (by kernel_rfl) (e:=Extern.AbiNoEscape.same) (by kernel_rfl)]
 rw [Lib.run_noEscape]
 simp only [Result.andThen]
 rw [Oper.upon_value]
 go_wp2
 rw [Lib.run_from_unsafe w ⟨b,0,none⟩ Tryz.underlying142 Tryz.underlying122 hj hsh sb_lies]
 simp only [Result.andThen]
 rw [Oper.upon_value]
 go_wp2
 go_end0
 exact ⟨rfl,rfl⟩
theorem sb_check (B b : Nat) (bs : List Value) (w : World) (h : Lib.IsBuilder 124 5 B b bs w) :
  Calls Tryz.prog 100 #[.pointer (some ⟨b,0,none⟩)] w fun e w' => e = .returned (.tuple #[]) /\ (Lib.BuilderAt 124 5 B b (.pointer (some ⟨b,0,none⟩)) bs w' /\ Below B w w'):=by
 rcases h with h | h
 ·refine (sb_check_fresh b w h.cell0 h.shape h.frozen0).mono ?_
  rintro e w' ⟨rfl,rfl⟩
  exact ⟨rfl,h.used _,(Below.refl B w).setCell (p:=⟨b,0,none⟩) h.1 _⟩
 ·refine (sb_check_used b w h.cell0).mono ?_
  rintro e w' ⟨rfl,rfl⟩
  exact ⟨rfl,h,Below.refl B _⟩
theorem sb_len (B b : Nat) (l : List UInt8) (w : World) (h : SB B b l w) :
  Calls Tryz.prog 86 #[.pointer (some ⟨b,0,none⟩)] w fun e w' => e = .returned (.int .i64 l.length) /\ w = w':=by
 obtain ⟨p,hB,v,hbk,hown,hne⟩ : ∃ p,Lib.BuilderAt 124 5 B b p (Lib.byteCells l) w:=by
  rcases h with h | h
  ·exact ⟨_,h⟩
  ·exact ⟨_,h⟩
 rw [Lib.byteCells_length] at hown
 obtain ⟨ao,cap,rfl⟩ : ∃ ao cap,v = .slice ao l.length cap:=by
  rcases hown.2 with ⟨hv,h0⟩ | ⟨g,cap,cur,hv,_⟩
  ·exact ⟨none,0,by rw [hv,h0]⟩
  ·exact ⟨_,_,hv⟩
 have c1 : w.cell? ⟨b,1,none⟩ = some (.slice ao l.length cap):=by rw [Lib.cell_of_heap hbk]; rfl
 go_enter Tryz.func86,Tryz.ntmps86
 go_wp2
 go_ret
 exact ⟨rfl,rfl⟩
theorem sb_write (B b : Nat) (l : List UInt8) (s : ByteArray) (w : World) (h : SB B b l w) (hlen : l.length + s.size <= 140737488355328) (hBw : B <= w.heap.size) :
  Calls Tryz.prog 87 #[.pointer (some ⟨b,0,none⟩),.string s] w fun e w' => e = .returned (.tuple #[.int .i64 s.size,.nilIface]) /\ (SB B b (l ++ s.data.toList) w' /\ Below B w w'):=by
 obtain ⟨i0,hi,hz0,hz1,hz2⟩:=info_parts sb_info
 have HC:=aa (sb_check B b _ w h)
 have hl:=Lib.byteCells_length l
 go_enter Tryz.func87,Tryz.ntmps87
 go_wp2_with (go_at_call 100; refine HC.out.mono ?_)
 rintro e w1 ⟨rfl,h1,hb1⟩
 obtain ⟨hB,v,hbk,hown,hne⟩:=h1
 have c0 : w1.cell? ⟨b,0,none⟩ = some (.pointer (some ⟨b,0,none⟩)):=by rw [Lib.cell_of_heap hbk]; rfl
 have c1 : w1.cell? ⟨b,1,none⟩ = some v:=by rw [Lib.cell_of_heap hbk]; rfl
 go_wp2_with (at_builtin; refine Lib.wpList_append_own_string _ rfl _ _ 90 9 rfl B 5 i0 Tryz.underlying90 Tryz.underlying9 hi hz0 hz1 hz2 _ _ _ rfl hown s rfl ?c3 ?c4 ?c5 ?_)
 case c3 => unfold maxLen; omega
 case c4 => omega
 case c5 => have:=hb1.size; omega
 intro v' w2 hown' hgrow _
 have hlt : b < w1.heap.size:=by
  rcases Nat.lt_or_ge b w1.heap.size with h' | h'
  ·exact h'
  ·simp [Array.getElem?_eq_none h'] at hbk
 have hb2 : w2.heap[b]? = some (.cells #[.pointer (some ⟨b,0,none⟩),v] 124 (0,0)):=by
  rw [hgrow.block b hlt (fun e => hne e.symm)]
  exact hbk
 have d0 : w2.cell? ⟨b,0,none⟩ = some (.pointer (some ⟨b,0,none⟩)):=by rw [Lib.cell_of_heap hb2]; rfl
 have d1 : w2.cell? ⟨b,1,none⟩ = some v:=by rw [Lib.cell_of_heap hb2]; rfl
 have f1 : w2.frozen? ⟨b,1,none⟩ = false:=Lib.frozen_of_heap hb2 1
 obtain ⟨ao,n',cap,rfl⟩ : ∃ ao n' cap,v' = .slice ao n' cap:=by
  rcases hown'.2 with ⟨hv,_⟩ | ⟨g,cap,cur,hv,_⟩
  ·exact ⟨_,_,_,hv⟩
  ·exact ⟨_,_,_,hv⟩
 go_wp2
 go_ret2
 refine ⟨rfl,?_,?_⟩
 ·refine Or.inr ?_
  have e : Lib.byteCells (l ++ s.data.toList) = Lib.byteCells l ++ Lib.strCells s:=by simp [Lib.byteCells,Lib.strCells]
  rw [e]
  exact Lib.BuilderAt.put (T:=124) (e:=5) hB hb2 (by simpa [Lib.strCells_length,Lib.byteCells_length] using hown') sb_ne
 ·exact (hb1.grown hgrow (by have:=hb1.size; omega) (fun k hk => (hown.lt k hk).1)).setCell (p:=⟨b,1,none⟩) hB _
theorem sb_string_some (B b : Nat) (l : List UInt8) (w : World) (h : SB B b l w) (h0 : l ≠ []) :
  Calls Tryz.prog 88 #[.pointer (some ⟨b,0,none⟩)] w fun e w' => e = .returned (.string ⟨l.toArray⟩) /\ Below B w w':=by
 obtain ⟨p,hB,v,hbk,hown,hne⟩ : ∃ p,Lib.BuilderAt 124 5 B b p (Lib.byteCells l) w:=by
  rcases h with h | h
  ·exact ⟨_,h⟩
  ·exact ⟨_,h⟩
 have hl0 : l.length ≠ 0:=by simpa using h0
 rw [Lib.byteCells_length] at hown
 obtain ⟨g,cap,cur,rfl,hbg,hg,hnc,hcm,hcs,htake⟩ : ∃ g cap cur,v = .slice (some ⟨g,0,none⟩) l.length cap /\ B <= g /\ w.heap[g]? = some (.cells cur 5 (0,0)) /\ l.length <= cap /\ cap <= maxLen /\ cur.size = cap * 1 /\ cur.toList.take (l.length * 1) = Lib.byteCells l:=by
  rcases hown.2 with ⟨_,hz⟩ | ⟨g,cap,cur,hv,r⟩
  ·exact absurd hz hl0
  ·exact ⟨g,cap,cur,hv,r⟩
 have c1 : w.drew.cell? ⟨b,1,none⟩ = some (.slice (some ⟨g,0,none⟩) l.length cap):=by
  have : w.drew.heap[b]? = some (.cells #[p,.slice (some ⟨g,0,none⟩) l.length cap] 124 (0,0)):=hbk
  rw [Lib.cell_of_heap this]; rfl
 have hSD : (Builtin.unsafeSliceData_ #[90] 138 #[.slice (some ⟨g,0,none⟩) l.length cap]).run Tryz.prog w.drew = .ok (.pointer (some ⟨g,0,none⟩)) w.drew :=
  Lib.run_unsafeSliceData_row _ _ _ _ _ _ (by omega)
 have hUS : (Builtin.unsafeString_ #[138,3] 9 #[.pointer (some ⟨g,0,none⟩),.int .i64 l.length]).run Tryz.prog w.drew = .ok (.string ⟨l.toArray⟩) (w.drew.freeze ⟨g,0,none⟩ l.length):=by
  refine Lib.run_unsafeString_row w.drew 138 3 9 5 Tryz.underlying138 sb_cells g cur.size (by have hg' : w.drew.heap[g]? = some (.cells cur 5 (0,0)):=hg; simp [World.shape?,hg']) l h0 (by omega) (by unfold maxLen at hcm; omega) ?_
  intro j x hx
  have:=hown.cells (g:=g) rfl j (.int .u8 x.toNat) (by simp [Lib.byteCells,hx])
  exact this
 clear h htake hcs hcm hnc hl0 hown hne
 go_enter Tryz.func88,Tryz.ntmps88
 go_wp2
 go_region
 all_goals (go_wp2; go_ret; exact ⟨rfl,Lib.below_freeze (Below.drew (Below.refl B w)) (p:=⟨g,0,none⟩) hbg _⟩)
theorem eS (W : World) (q : Option Addr) : (Builtin.unsafeString_ #[138,3] 9 #[.pointer q,.int .i64 0]).run Tryz.prog W = .ok (.string .empty) W :=
 Lib.run_unsafeString_none W _ _ _ q
theorem sb_string_nil (B b : Nat) (p : Value) (w : World) (hbk : w.heap[b]? = some (.cells #[p,.slice none 0 0] 124 (0,0))) :
  Calls Tryz.prog 88 #[.pointer (some ⟨b,0,none⟩)] w fun e w' => e = .returned (.string ⟨#[]⟩) /\ Below B w w':=by
 have hUS:=eS
 have c1 : w.drew.cell? ⟨b,1,none⟩ = some (.slice none 0 0):=by
  have : w.drew.heap[b]? = some (.cells #[p,.slice none 0 0] 124 (0,0)):=hbk
  rw [Lib.cell_of_heap this]; rfl
 have hSD : (Builtin.unsafeSliceData_ #[90] 138 #[.slice none 0 0]).run Tryz.prog w.drew = .ok (.pointer none) w.drew:=rfl
 clear hbk
 go_enter Tryz.func88,Tryz.ntmps88
 go_wp2
 go_region
 all_goals (go_wp2; go_ret; exact ⟨rfl,Below.drew (Below.refl B w)⟩)
theorem fW (B b g : Nat) (p : Value) (cur : Array Value) (w : World) (hBw : B <= w.heap.size) (hbk : w.heap[b]? = some (.cells #[p,.slice (some ⟨g,0,none⟩) 0 0] 124 (0,0))) (hg : w.heap[g]? = some (.cells cur 5 (0,0))) :
  Calls Tryz.prog 88 #[.pointer (some ⟨b,0,none⟩)] w fun e w' => e = .returned (.string ⟨#[]⟩) /\ Below B w w':=by
 have hUS:=eS
 have hlt : b < w.heap.size:=by
  rcases Nat.lt_or_ge b w.heap.size with h' | h'
  ·exact h'
  ·simp [Array.getElem?_eq_none h'] at hbk
 have c1 : w.drew.cell? ⟨b,1,none⟩ = some (.slice (some ⟨g,0,none⟩) 0 0):=by
  have : w.drew.heap[b]? = some (.cells #[p,.slice (some ⟨g,0,none⟩) 0 0] 124 (0,0)):=hbk
  rw [Lib.cell_of_heap this]; rfl
 have hSD : (Builtin.unsafeSliceData_ #[90] 138 #[.slice (some ⟨g,0,none⟩) 0 0]).run Tryz.prog w.drew = .ok (.pointer (some ⟨w.drew.heap.size,0,none⟩)) (w.drew.alloc (.view ⟨g,0,none⟩ 5)) :=
  Lib.run_unsafeSliceData_zero w.drew _ _ 5 Tryz.underlying138 ⟨g,0,none⟩ 0 (5,cur.size) (by have hg' : w.drew.heap[g]? = some (.cells cur 5 (0,0)):=hg; simp [World.shape?,hg'])
 have c2 : (w.drew.alloc (.view ⟨g,0,none⟩ 5)).cell? ⟨b,1,none⟩ = some (.slice (some ⟨g,0,none⟩) 0 0):=by
  have : (w.drew.alloc (.view ⟨g,0,none⟩ 5)).heap[b]? = _:=(Lib.alloc_old w.drew _ b hlt).trans hbk
  rw [Lib.cell_of_heap this]; rfl
 have c3 : (w.alloc (.view ⟨g,0,none⟩ 5)).drew.cell? ⟨b,1,none⟩ = some (.slice (some ⟨g,0,none⟩) 0 0):=c2
 have c0 : w.cell? ⟨b,1,none⟩ = some (.slice (some ⟨g,0,none⟩) 0 0):=c1
 clear hbk hg hlt
 go_enter Tryz.func88,Tryz.ntmps88
 go_wp2
 go_region
 all_goals (go_wp2; go_ret; exact ⟨rfl,(Below.drew (Below.refl B w)).alloc hBw _⟩)
theorem sb_string_room (B b g cap : Nat) (p : Value) (w : World) (hc0 : cap ≠ 0) (hbk : w.heap[b]? = some (.cells #[p,.slice (some ⟨g,0,none⟩) 0 cap] 124 (0,0))) :
  Calls Tryz.prog 88 #[.pointer (some ⟨b,0,none⟩)] w fun e w' => e = .returned (.string ⟨#[]⟩) /\ Below B w w':=by
 have hUS:=eS
 have c1 : w.drew.cell? ⟨b,1,none⟩ = some (.slice (some ⟨g,0,none⟩) 0 cap):=by
  have : w.drew.heap[b]? = some (.cells #[p,.slice (some ⟨g,0,none⟩) 0 cap] 124 (0,0)):=hbk
  rw [Lib.cell_of_heap this]; rfl
 have hSD : (Builtin.unsafeSliceData_ #[90] 138 #[.slice (some ⟨g,0,none⟩) 0 cap]).run Tryz.prog w.drew = .ok (.pointer (some ⟨g,0,none⟩)) w.drew :=
  Lib.run_unsafeSliceData_row _ _ _ _ _ _ hc0
 clear hc0 hbk
 go_enter Tryz.func88,Tryz.ntmps88
 go_wp2
 go_region
 all_goals (go_wp2; go_ret; exact ⟨rfl,Below.drew (Below.refl B w)⟩)
theorem sb_string (B b : Nat) (l : List UInt8) (w : World) (h : SB B b l w) (hBw : B <= w.heap.size) :
  Calls Tryz.prog 88 #[.pointer (some ⟨b,0,none⟩)] w fun e w' => e = .returned (.string ⟨l.toArray⟩) /\ Below B w w':=by
 cases l with
 | cons x r => exact sb_string_some B b (x :: r) w h (by simp)
 | nil =>
  obtain ⟨p,hB,v,hbk,hown,hne⟩ : ∃ p,Lib.BuilderAt 124 5 B b p [] w:=by
   rcases h with h | h
   ·exact ⟨_,h⟩
   ·exact ⟨_,h⟩
  rcases hown.2 with ⟨rfl,_⟩ | ⟨g,cap,cur,rfl,hbg,hg,_,_,_,_⟩
  ·exact sb_string_nil B b p w hbk
  ·by_cases hc0 : cap = 0
   ·subst hc0
    exact fW B b g p cur w hBw hbk hg
   ·exact sb_string_room B b g cap p w hc0 hbk
theorem sb_new (w : World) : SB w.heap.size w.heap.size [] (w.alloc (.cells #[.pointer none,.slice none 0 0] 124)) :=
 Or.inl ⟨Nat.le_refl _,.slice none 0 0,heap_alloc_new w _,World.ownsRow_nil _ _ _ _,by simp [Value.ownBlock]⟩
theorem SB.below {B b : Nat} {l : List UInt8} {w w' : World} (h : SB B b l w) (hb : Below w.heap.size w w') : SB B b l w':=by
 have key : ∀ p,Lib.BuilderAt 124 5 B b p (Lib.byteCells l) w -> Lib.BuilderAt 124 5 B b p (Lib.byteCells l) w':=by
  rintro p ⟨hB,v,hbk,hown,hne⟩
  refine ⟨hB,v,(hb.block b (lt_of_block hbk)).trans hbk,?_,hne⟩
  obtain ⟨h1,h2⟩:=hown
  refine ⟨h1,?_⟩
  rcases h2 with h2 | ⟨g,cap,cur,rfl,hbg,hh,r⟩
  ·exact Or.inl h2
  ·exact Or.inr ⟨g,cap,cur,rfl,hbg,(hb.block g (lt_of_block hh)).trans hh,r⟩
 rcases h with h | h
 ·exact Or.inl (key _ h)
 ·exact Or.inr (key _ h)
def ey (l : List UInt8) (w : World) (e : Ending) (w' : World) : Prop :=
 Below w.heap.size w w' /\ ((l.length <= 8192 /\ e = .returned (.tuple #[.string ⟨l.toArray⟩,.bool true])) \/ (8192 < l.length /\ ∃ s,e = .returned (.tuple #[.string s,.bool false])))
theorem wraps_u8 (n : Int) (h₀ : 0 <= n) (h₁ : n < 2 ^ 8) : IntKind.u8.wrap n = n:=by rw [IntKind.wrap_u8]; omega
theorem nat_or_32 : ∀ n : Fin 256,n.val % 64 < 32 -> n.val ||| 32 = n.val + 32:=by decide
theorem u8_or_32 (n : Int) (h0 : 0 <= n) (h1 : n < 256) (h2 : n % 64 < 32) : bits BinOp.or IntKind.u8 n 32 = n + 32:=by
 obtain ⟨a,rfl⟩:=Int.eq_ofNat_of_zero_le h0
 have h:=(bits_nat .u8 8 (by decide) wraps_u8 a 32 (by omega) (by omega)).2
 rw [nat_or_32 ⟨a,by omega⟩ (by show a % 64 < 32; omega)] at h
 exact h
theorem str_app3 (a b c : List UInt8) : (⟨a.toArray⟩ ++ ⟨b.toArray⟩ ++ ⟨c.toArray⟩ : ByteArray) = ⟨(a ++ (b ++ c)).toArray⟩:=by
 apply dB
 simp
theorem size_list (l : List UInt8) : (⟨l.toArray⟩ : ByteArray).size = l.length:=by simp [ByteArray.size]
theorem encode_prim (c g : Int) (b : ByteArray) (A : Option Addr) (n cap : Nat) (w : World) (hc0 : 0 <= c) (hc3 : c <= 3) (hg0 : 0 <= g) (hg3 : g <= 30) (hbm : b.size <= maxLen) :
  Calls Tryz.prog 55 #[.agg #[.int .i64 c,.bool false,.int .i64 g,.string b,.slice A n cap]] w (ey (UInt8.ofNat (c * 64 + g).toNat :: (PB.lenB b.size ++ b.data.toList)) w):=by
 unfold maxLen at hbm
 have hor:=i64_or_64 c g hc0 (by omega) hg0 (by omega)
 by_cases hl : 8192 < b.size
 ·have q1 : decide ((8192 : Int) < b.size) = true:=by simp; omega
  go_enter Tryz.func55,Tryz.ntmps55
  go_wp2_with fail
  go_ret2
  exact ⟨(Below.refl _ _).alloc (Nat.le_refl _) _,Or.inr ⟨by simp; have : b.size = b.data.size:=rfl; omega,_,rfl⟩⟩
 ·have q1 : decide ((8192 : Int) < b.size) = false:=by simp; omega
  have HL:=aa fun W : World => length_le b.size W (by omega)
  have hcv:=conv_one (UInt8.ofNat (c * 64 + g).toNat)
  have hv : ((UInt8.ofNat (c * 64 + g).toNat).toNat : Int) = c * 64 + g:=by rw [UInt8.toNat_ofNat']; omega
  rw [hv] at hcv
  have hfe : (⟨[UInt8.ofNat (c * 64 + g).toNat].toArray⟩ ++ ⟨(PB.lenB b.size).toArray⟩ ++ b : ByteArray) = ⟨(UInt8.ofNat (c * 64 + g).toNat :: (PB.lenB b.size ++ b.data.toList)).toArray⟩:=by
   have:=str_app3 [UInt8.ofNat (c * 64 + g).toNat] (PB.lenB b.size) b.data.toList
   rw [List.singleton_append] at this
   exact this
  have hln:=PB.lenB_len b.size
  have hle : (UInt8.ofNat (c * 64 + g).toNat :: (PB.lenB b.size ++ b.data.toList)).length = 1 + (PB.lenB b.size).length + b.size:=by simp; have : b.size = b.data.size:=rfl; omega
  have hsz1 : (⟨[UInt8.ofNat (c * 64 + g).toNat].toArray⟩ : ByteArray).size <= 1:=by simp [ByteArray.size]
  have hsz2 : (⟨(PB.lenB b.size).toArray⟩ : ByteArray).size <= 4:=lenB_size _
  have hb8 : b.size <= 8192:=by omega
  generalize UInt8.ofNat (c * 64 + g).toNat :: (PB.lenB b.size ++ b.data.toList) = fl at *
  generalize (⟨[UInt8.ofNat (c * 64 + g).toNat].toArray⟩ : ByteArray) = hd at *
  generalize (⟨(PB.lenB b.size).toArray⟩ : ByteArray) = ls at *
  have HFE:=aa hfe
  have hbd : fl.length <= 9000:=by omega
  clear hv hfe hle
  go_enter Tryz.func55,Tryz.ntmps55
  go_upto_region 17 with fail
  have hbw : Below w.heap.size w (w.alloc (.cells #[.int .i64 c,.bool false,.int .i64 g,.string b,.slice A n cap] 42)):=(Below.refl _ _).alloc (Nat.le_refl _) _
  generalize w.alloc (.cells #[.int .i64 c,.bool false,.int .i64 g,.string b,.slice A n cap] 42) = W at *
  have HBW:=aa hbw
  clear hbw
  go_cut [11] (fun v wx => v = .string ⟨fl.toArray⟩ /\ Below W.heap.size W wx)
  case first =>
   go_region_with (go_at_call 89; refine (HL.out _).mono ?_; rintro e w3 ⟨rfl,hb3⟩; obtain ⟨hcc,hff⟩:=bcell hb3)
   all_goals
    go_wp2_with fail
    go_meet
    refine ⟨by rw [<- HFE.out],?_⟩
    clear hcc hff
    first
     | exact (((Below.refl _ _).alloc (Nat.le_refl _) _).drew).trans (hb3.mono (by simp))
     | exact ((Below.refl _ _).drew.trans hb3).alloc hb3.size _
  case rest =>
   obtain ⟨rfl,hbc⟩:=hcut
   by_cases hf : fl.length <= 8192
   ·have hq : decide ((fl.length : Int) <= 8192) = true:=by simp; omega
    go_wp2_with fail
    go_ret2
    exact ⟨HBW.out.trans (hbc.mono HBW.out.size),Or.inl ⟨hf,rfl⟩⟩
   ·have hq : decide ((fl.length : Int) <= 8192) = false:=by simp; omega
    go_wp2_with fail
    go_ret2
    exact ⟨HBW.out.trans (hbc.mono HBW.out.size),Or.inr ⟨by omega,_,rfl⟩⟩
theorem Tl.rights_mem {k : Tl} {d : Nat} : ∀ {ks : List Tl},Tl.rights ks d = true -> k ∈ ks -> k.right d = true
 | [],_,h => by cases h
 | x :: ks,hr,h => by
  unfold Tl.rights at hr
  simp only [Bool.and_eq_true] at hr
  rcases List.mem_cons.1 h with rfl | h
  ·exact hr.1
  ·exact Tl.rights_mem hr.2 h
theorem sb_block {B b : Nat} {l : List UInt8} {w : World} (h : SB B b l w) : B <= b /\ b < w.heap.size:=by
 rcases h with h | h
 ·exact ⟨h.1,h.lt⟩
 ·exact ⟨h.1,h.lt⟩
theorem encode_any (n : Nat) : ∀ (S : Nat -> Prop) (t : Tl) (cs : Array Value) (d : Nat) (w : World),t.rank <= n -> TlAt w S t cs -> t.right d = true →
  Calls Tryz.prog 55 #[.agg cs] w (ey (PB.enc t) w):=by
 induction n with
 | zero =>
  intro S t cs d w hr
  obtain ⟨c,k,g,b,ks⟩:=t
  unfold Tl.rank at hr
  omega
 | succ n ih =>
  intro S t cs d w hr ht hrt
  obtain ⟨c,k,g,b,ks⟩:=t
  unfold TlAt at ht
  obtain ⟨A,cap,rfl,⟨hkc,hkm⟩,hc,hg,hb,hk⟩:=ht
  have hks:=Nat.le_trans hkc hkm
  clear hkc hkm
  unfold Tl.rank at hr
  unfold Tl.right at hrt
  by_cases hbad : 16 < d \/ c < 0 \/ 3 < c \/ g < 0 \/ 30 < g
  ·rw [if_pos hbad] at hrt
   cases hrt
  rw [if_neg hbad] at hrt
  have h2 : 0 <= c:=by omega
  have h3 : c <= 3:=by omega
  have h4 : 0 <= g:=by omega
  have h5 : g <= 30:=by omega
  clear hbad
  cases k with
  | false =>
   have he : PB.enc (.mk c false g b ks) = UInt8.ofNat (c * 64 + g).toNat :: (PB.lenB b.size ++ b.data.toList):=by unfold PB.enc; rw [if_neg (by decide)]
   rw [he]
   exact encode_prim _ _ _ _ _ _ _ h2 h3 h4 h5 hb
  | true =>
  have he : PB.enc (.mk c true g b ks) = UInt8.ofNat (c * 64 + g + 32).toNat :: (PB.lenB (PB.encs ks).length ++ PB.encs ks):=by unfold PB.enc; rw [if_pos rfl]
  rw [he]
  rw [if_pos rfl] at hrt
  simp only [Bool.and_eq_true] at hrt
  have hrs:=aa hrt.1
  unfold maxLen at hb hks
  have hor:=i64_or_64 c g h2 (by omega) h4 (by omega)
  have ho2:=u8_or_32 (c * 64 + g) (by omega) (by omega) (by omega)
  have IH:=aa ih
  have HK:=aa hk
  clear ih hk hc hg hrt he
  have hcv:=conv_one (UInt8.ofNat (c * 64 + g + 32).toNat)
  have hv : ((UInt8.ofNat (c * 64 + g + 32).toNat).toNat : Int) = c * 64 + g + 32:=by rw [UInt8.toNat_ofNat']; omega
  rw [hv] at hcv
  have hfe : (⟨[UInt8.ofNat (c * 64 + g + 32).toNat].toArray⟩ ++ ⟨(PB.lenB (PB.encs ks).length).toArray⟩ ++ ⟨(PB.encs ks).toArray⟩ : ByteArray) = ⟨(UInt8.ofNat (c * 64 + g + 32).toNat :: (PB.lenB (PB.encs ks).length ++ PB.encs ks)).toArray⟩:=by
   have:=str_app3 [UInt8.ofNat (c * 64 + g + 32).toNat] (PB.lenB (PB.encs ks).length) (PB.encs ks)
   rw [List.singleton_append] at this
   exact this
  have hln:=PB.lenB_len (PB.encs ks).length
  have hle : (UInt8.ofNat (c * 64 + g + 32).toNat :: (PB.lenB (PB.encs ks).length ++ PB.encs ks)).length = 1 + (PB.lenB (PB.encs ks).length).length + (PB.encs ks).length:=by simp; omega
  have hsz1 : (⟨[UInt8.ofNat (c * 64 + g + 32).toNat].toArray⟩ : ByteArray).size <= 1:=by simp [ByteArray.size]
  have hsz2 : (⟨(PB.lenB (PB.encs ks).length).toArray⟩ : ByteArray).size <= 4:=lenB_size _
  generalize hfl : UInt8.ofNat (c * 64 + g + 32).toNat :: (PB.lenB (PB.encs ks).length ++ PB.encs ks) = fl at *
  generalize (⟨[UInt8.ofNat (c * 64 + g + 32).toNat].toArray⟩ : ByteArray) = hd at *
  generalize hls : (⟨(PB.lenB (PB.encs ks).length).toArray⟩ : ByteArray) = ls at *
  have HLS:=aa hls
  have HFE:=aa hfe
  have hle2 : (PB.encs ks).length < fl.length:=by omega
  have hle3 : fl.length <= (PB.encs ks).length + 5:=by omega
  clear hv hfe hle hfl hln hls
  go_enter Tryz.func55,Tryz.ntmps55
  go_wp2_with fail
  have hbk0:=(Bk.new w 42 #[.int .i64 c,.bool true,.int .i64 g,.string b,.slice A ks.length cap]).alloc (.cells #[.pointer none,.slice none 0 0] 124)
  have hsb0:=sb_new (w.alloc (.cells #[.int .i64 c,.bool true,.int .i64 g,.string b,.slice A ks.length cap] 42))
  have hbl0:=((Below.refl w.heap.size w).alloc (Nat.le_refl _) (.cells #[.int .i64 c,.bool true,.int .i64 g,.string b,.slice A ks.length cap] 42)).alloc (by simp) (.cells #[.pointer none,.slice none 0 0] 124)
  have hsz : (w.alloc (.cells #[.int .i64 c,.bool true,.int .i64 g,.string b,.slice A ks.length cap] 42)).heap.size = w.heap.size + 1:=by simp
  rw [hsz] at hsb0
  generalize ((w.alloc (.cells #[.int .i64 c,.bool true,.int .i64 g,.string b,.slice A ks.length cap] 42)).alloc (.cells #[.pointer none,.slice none 0 0] 124)) = w1 at *
  clear hsz
  go_loopw [28] (fun i wr => ∃ (j : Nat),i = .int .i64 j /\ j <= ks.length /\ Hid ((PB.encs (ks.take j)).length <= 8192) /\ Hid (SB (w.heap.size + 1) (w.heap.size + 1) (PB.encs (ks.take j)) wr) /\ Hid (Below w.heap.size w wr)) (fun i _ => ks.length - (intOf i).toNat)
  case atStart => exact ⟨0,rfl,Nat.zero_le _,by show _ <= _; simp [PB.encs],by show SB _ _ _ _; simpa [PB.encs] using hsb0,hbl0⟩
  case round =>
   clear hsb0 hbl0 hbk0
   obtain ⟨j,rfl,hj,HE,HS,HR⟩:=hrel
   by_cases hlt : j < ks.length
   ·obtain ⟨b1,o1,c0,c1,c2,c3,c4,rfl,⟨_,hb1⟩,q0,q1,q2,q3,q4,ht⟩:=(KsAt.below HR.out ks A 0 HK.out).get j hlt
    have hrk:=Tl.rank_mem (List.getElem_mem hlt)
    obtain ⟨x0,x1,x2,x3,xA,xn,xc,hcs⟩:=ak ht
    simp only [Array.mk.injEq,List.cons.injEq,and_true] at hcs
    obtain ⟨rfl,rfl,rfl,rfl,rfl⟩:=hcs
    have HC:=IH.out S ks[j] _ (d + 1) (wr.alloc (.cells #[.int .i64 x0,.bool x1,.int .i64 x2,.string x3,.slice xA xn xc] 42)) (by omega) (TlAt.below ((Below.refl _ _).alloc (Nat.le_refl _) _) _ _ ht) (Tl.rights_mem hrs.out (List.getElem_mem hlt))
    have hst : PB.encs (ks.take (j + 1)) = PB.encs (ks.take j) ++ PB.enc ks[j]:=by
     rw [List.take_succ_eq_append_getElem hlt,PB.encs_app]
     simp [PB.encs]
    have hto : (PB.encs (ks.take (j + 1))).length <= (PB.encs ks).length:=by
     conv => rhs; rw [<- List.take_append_drop (j + 1) ks,PB.encs_app]
     rw [List.length_append]
     omega
    rw [Nat.zero_add] at q0 q1 q2 q3 q4
    have hbl1:=HR.out.alloc HR.out.size (.cells #[.int .i64 x0,.bool x1,.int .i64 x2,.string x3,.slice xA xn xc] 42)
    have hsb1:=HS.out.below ((Below.refl _ _).alloc (Nat.le_refl _) (.cells #[.int .i64 x0,.bool x1,.int .i64 x2,.string x3,.slice xA xn xc] 42))
    have he8:=HE.out
    have HST:=aa hst
    have hsum : (PB.encs (ks.take (j + 1))).length = (PB.encs (ks.take j)).length + (PB.enc ks[j]).length:=by rw [hst,List.length_append]
    clear hst
    by_cases hkl : (PB.enc ks[j]).length <= 8192
    ·have HC1:=aa (HC.mono fun e w' (h : ey _ _ e w') => (show Below _ _ w' /\ e = _ from ⟨h.1,h.2.elim (fun x => x.2) (fun x => absurd hkl (by omega))⟩))
     clear HC
     have hszk:=size_list (PB.enc ks[j])
     by_cases hsm : (PB.encs (ks.take (j + 1))).length <= 8192
     ·have hq : decide (((PB.encs (ks.take j)).length : Int) + (PB.enc ks[j]).length <= 8192) = true:=by simp; omega
      generalize (PB.enc ks[j]) = el at *
      generalize hol : PB.encs (ks.take j) = ol at *
      clear hol
      go_wp2_with (first
       | (go_at_call 55; refine HC1.out.mono ?_; rintro e w3 ⟨hb3,rfl⟩; have HS3:=aa (hsb1.below hb3))
       | (go_at_call 86; refine (sb_len _ _ _ _ HS3.out).mono ?_; rintro e w' ⟨rfl,rfl⟩)
       | fail)
      refine (sb_write (w.heap.size + 1) _ ol _ w3 HS3.out (by rw [hszk]; omega) (by have:=(sb_block HS3.out).2; omega)).mono ?_
      rintro e w4 ⟨rfl,hs4,hb4⟩
      have hbl3:=hbl1.trans (hb3.mono hbl1.size)
      have hbl4:=hbl3.trans (hb4.mono (by omega))
      clear hbl1 hsb1 hbl3 hb3 hb4 HS3
      go_wp2_with fail
      go_roundw
      case rel => exact ⟨j + 1,by go_num,by omega,hsm,by show SB _ _ _ _; rw [HST.out]; exact hs4,hbl4⟩
      case measure => simp [intOf]; omega
     ·have hq : decide (((PB.encs (ks.take j)).length : Int) + (PB.enc ks[j]).length <= 8192) = false:=by simp; omega
      have hq2 : decide (8192 < ((PB.encs (ks.take j)).length : Int) + (PB.enc ks[j]).length) = true:=by simp; omega
      generalize (PB.enc ks[j]) = el at *
      generalize hol : PB.encs (ks.take j) = ol at *
      clear hol
      go_wp2_with (first
       | (go_at_call 55; refine HC1.out.mono ?_; rintro e w3 ⟨hb3,rfl⟩; have HS3:=aa (hsb1.below hb3))
       | (go_at_call 86; refine (sb_len _ _ _ _ HS3.out).mono ?_; rintro e w' ⟨rfl,rfl⟩)
       | fail)
      go_ret2
      exact ⟨hbl1.trans (hb3.mono hbl1.size),Or.inr ⟨by omega,_,rfl⟩⟩
    ·have HC1:=aa (HC.mono fun e w' (h : ey _ _ e w') => (show Below _ _ w' /\ ∃ s,e = _ from ⟨h.1,h.2.elim (fun x => absurd x.1 hkl) (fun x => x.2)⟩))
     clear HC
     go_wp2_with (first
      | (go_at_call 55; refine HC1.out.mono ?_; rintro e w3 ⟨hb3,s0,rfl⟩)
      | fail)
     go_ret2
     exact ⟨hbl1.trans (hb3.mono hbl1.size),Or.inr ⟨by omega,_,rfl⟩⟩
   ·obtain rfl : j = ks.length:=by omega
    have hs1:=HS.out
    have he8:=HE.out
    rw [List.take_length] at hs1 he8
    have HL:=aa fun W : World => length_le (PB.encs ks).length W he8
    rw [HLS.out] at HL
    have HST:=aa (sb_string _ _ _ wr hs1 (by have:=(sb_block hs1).2; omega))
    have hszk:=size_list (PB.encs ks)
    have q1 : decide ((8192 : Int) < (PB.encs ks).length) = false:=by simp; omega
    clear hs1 HS HE
    generalize hel : PB.encs ks = el at *
    clear hel
    go_upto_region 17 with (go_at_call 88; refine HST.out.mono ?_; rintro e w3 ⟨rfl,hb3⟩)
    have HBW:=aa (HR.out.trans (hb3.mono (by omega)))
    clear hb3
    go_cut [11] (fun v wx => v = .string ⟨fl.toArray⟩ /\ Below w3.heap.size w3 wx)
    case first =>
     go_region_with (go_at_call 89; refine (HL.out _).mono ?_; rintro e w4 ⟨rfl,hb4⟩; obtain ⟨hcc,hff⟩:=bcell hb4)
     all_goals
      go_wp2_with fail
      go_meet
      refine ⟨by rw [<- HFE.out],?_⟩
      clear hcc hff
      first
       | exact (((Below.refl _ _).alloc (Nat.le_refl _) _).drew).trans (hb4.mono (by simp))
       | exact ((Below.refl _ _).drew.trans hb4).alloc hb4.size _
    case rest =>
     obtain ⟨rfl,hbc⟩:=hcut
     by_cases hf : fl.length <= 8192
     ·have hq : decide ((fl.length : Int) <= 8192) = true:=by simp; omega
      go_wp2_with fail
      go_ret2
      exact ⟨HBW.out.trans (hbc.mono HBW.out.size),Or.inl ⟨hf,rfl⟩⟩
     ·have hq : decide ((fl.length : Int) <= 8192) = false:=by simp; omega
      go_wp2_with fail
      go_ret2
      exact ⟨HBW.out.trans (hbc.mono HBW.out.size),Or.inr ⟨by omega,_,rfl⟩⟩
def encE (t : Tl) : Nat:=if t.right 1 = false then 4 else if 8192 < (PB.enc t).length then 5 else 0
def encS (t : Tl) : ByteArray:=if encE t = 0 then ⟨(PB.enc t).toArray⟩ else ⟨#[]⟩
def EncTop (t : Tl) (w : World) (e : Ending) (w' : World) : Prop :=
 Below w.heap.size w w' /\ e = .returned (.tuple #[.string (encS t),.int .i64 (encE t)])
theorem fT {t : Tl} {w w' : World} {s : ByteArray} {k : Int} (hs : encS t = s) (hk : ((encE t : Nat) : Int) = k) (hb : Below w.heap.size w w') : EncTop t w (.returned (.tuple #[.string s,.int .i64 k])) w':=by
 subst hs
 subst hk
 exact ⟨hb,rfl⟩
theorem bv (S : Nat -> Prop) (t : Tl) (cs : Array Value) (w : World) (ht : TlAt w S t cs) :
  Calls Tryz.prog 23 #[.agg cs] w (EncTop t w):=by
 obtain ⟨x0,x1,x2,x3,xA,xn,xc,rfl⟩:=ak ht
 have hb0 : Below w.heap.size w (w.alloc (.cells #[.int .i64 x0,.bool x1,.int .i64 x2,.string x3,.slice xA xn xc] 42)):=(Below.refl _ _).alloc (Nat.le_refl _) _
 have hb1:=hb0.alloc hb0.size (.cells #[.int .i64 x0,.bool x1,.int .i64 x2,.string x3,.slice xA xn xc] 42)
 have HR:=right_any _ S t _ 1 _ (Nat.le_refl _) (TlAt.below hb1 _ _ ht) (by omega)
 have hbk:=(Bk.new w 42 #[.int .i64 x0,.bool x1,.int .i64 x2,.string x3,.slice xA xn xc]).alloc (.cells #[.int .i64 x0,.bool x1,.int .i64 x2,.string x3,.slice xA xn xc] 42)
 cases hq : t.right 1 with
 | false =>
  rw [hq] at HR
  have H1:=aa HR
  have HE:=aa (show encE t = 4 by unfold encE; rw [if_pos hq])
  clear hq HR
  go_enter Tryz.func23,Tryz.ntmps23
  go_wp2_with (first
   | (go_at_call 54; go_in)
   | (go_at_call 85; refine H1.out.mono ?_; rintro e w2 ⟨rfl,hb2⟩)
   | fail)
  go_ret2
  exact fT (by unfold encS; rw [HE.out]; rfl) (by rw [HE.out]; rfl) (hb1.trans (hb2.mono hb1.size))
 | true =>
  rw [hq] at HR
  have H1:=aa HR
  have HQ:=aa hq
  clear hq HR
  by_cases hl : (PB.enc t).length <= 8192
  ·have HE:=aa (show encE t = 0 by unfold encE; rw [if_neg (by rw [HQ.out]; decide),if_neg (by omega)])
   have HC:=aa fun (W : World) (hb : Below w.heap.size w W) => (encode_any _ S t _ 1 W (Nat.le_refl _) (TlAt.below hb _ _ ht) HQ.out).mono fun e w' (h : ey _ _ e w') => (show Below _ _ w' /\ e = _ from ⟨h.1,h.2.elim (fun x => x.2) (fun x => absurd hl (by omega))⟩)
   clear ht
   go_enter Tryz.func23,Tryz.ntmps23
   go_wp2_with (first
    | (go_at_call 54; go_in)
    | (go_at_call 85; refine H1.out.mono ?_; rintro e w2 ⟨rfl,hb2⟩; have hbl2:=hb1.trans (hb2.mono hb1.size); obtain ⟨z0,z1,z2,z3,z4⟩:=(af hbk hb2).five; clear hb2)
    | (go_at_call 55; refine (HC.out _ hbl2).mono ?_; rintro e w3 ⟨hb3,rfl⟩)
    | fail)
   go_ret2
   exact fT (by unfold encS; rw [HE.out]; rfl) (by rw [HE.out]; rfl) (hbl2.trans (hb3.mono hbl2.size))
  ·have HE:=aa (show encE t = 5 by unfold encE; rw [if_neg (by rw [HQ.out]; decide),if_pos (by omega)])
   have HC:=aa fun (W : World) (hb : Below w.heap.size w W) => (encode_any _ S t _ 1 W (Nat.le_refl _) (TlAt.below hb _ _ ht) HQ.out).mono fun e w' (h : ey _ _ e w') => (show Below _ _ w' /\ ∃ s,e = _ from ⟨h.1,h.2.elim (fun x => absurd x.1 hl) (fun x => x.2)⟩)
   clear ht
   go_enter Tryz.func23,Tryz.ntmps23
   go_wp2_with (first
    | (go_at_call 54; go_in)
    | (go_at_call 85; refine H1.out.mono ?_; rintro e w2 ⟨rfl,hb2⟩; have hbl2:=hb1.trans (hb2.mono hb1.size); obtain ⟨z0,z1,z2,z3,z4⟩:=(af hbk hb2).five; clear hb2)
    | (go_at_call 55; refine (HC.out _ hbl2).mono ?_; rintro e w3 ⟨hb3,s0,rfl⟩)
    | fail)
   go_ret2
   exact fT (by unfold encS; rw [HE.out]; rfl) (by rw [HE.out]; rfl) (hbl2.trans (hb3.mono hbl2.size))
def RowPost (l : List UInt8) (w : World) (e : Ending) (w' : World) : Prop :=
 ∃ v,e = .returned v /\ w'.ownsRow w.heap.size 5 1 v l.length (u8s l) /\ Below w.heap.size w w'
def OwnM (w : World) (base : Nat) (e : TypeId) (v : Value) (n : Nat) (xs : List Value) : Prop :=
 xs.length = n /\ ((v = .slice none 0 0 /\ n = 0) ∨
  ∃ g cap cur fz,v = .slice (some ⟨g,0,none⟩) n cap /\ base <= g /\ w.heap[g]? = some (.cells cur e fz) /\ (fz.2 = 0 \/ cur.size <= fz.1) /\ n <= cap /\ cap <= maxLen /\ cur.size = cap /\ cur.toList.take n = xs)
section
variable {w : World} {base : Nat} {e : TypeId} {v : Value} {n : Nat} {xs : List Value}
theorem OwnM.of_own (h : w.ownsRow base e 1 v n xs) : OwnM w base e v n xs:=by
 obtain ⟨h1,h2⟩:=h
 refine ⟨by omega,?_⟩
 rcases h2 with h2 | ⟨g,cap,cur,hv,hb,hg,hc,hm,hs,ht⟩
 ·exact .inl h2
 ·exact .inr ⟨g,cap,cur,(0,0),hv,hb,hg,.inl rfl,hc,hm,by omega,by rw [Nat.mul_one] at ht; exact ht⟩
theorem OwnM.lt (h : OwnM w base e v n xs) : ∀ k,v.ownBlock = some k -> base <= k /\ k < w.heap.size:=by
 intro k hk
 rcases h.2 with ⟨rfl,_⟩ | ⟨g,cap,cur,fz,rfl,hb,hg,_⟩
 ·simp [Value.ownBlock] at hk
 ·simp [Value.ownBlock] at hk
  subst hk
  exact ⟨hb,(Array.getElem?_eq_some_iff.1 hg).1⟩
theorem OwnM.keep {w' : World} (h : OwnM w base e v n xs) (hk : ∀ k,v.ownBlock = some k -> w'.heap[k]? = w.heap[k]?) : OwnM w' base e v n xs:=by
 refine ⟨h.1,?_⟩
 rcases h.2 with hn | ⟨g,cap,cur,fz,rfl,hb,hgg,rest⟩
 ·exact .inl hn
 ·exact .inr ⟨g,cap,cur,fz,rfl,hb,(hk g rfl).trans hgg,rest⟩
theorem OwnM.below {w' : World} (h : OwnM w base e v n xs) (hb : Below w.heap.size w w') : OwnM w' base e v n xs :=
 h.keep fun k hk => hb.block k (h.lt k hk).2
theorem OwnM.mono {base' : Nat} (h : OwnM w base e v n xs) (hb : base' <= base) : OwnM w base' e v n xs:=by
 obtain ⟨h1,h2⟩:=h
 refine ⟨h1,?_⟩
 rcases h2 with h2 | ⟨g,cap,cur,fz,rfl,hg,r⟩
 ·exact .inl h2
 ·exact .inr ⟨g,cap,cur,fz,rfl,by omega,r⟩
theorem OwnM.slice (h : OwnM w base e v n xs) : ∃ (A : Option Addr) (c : Nat),v = .slice A n c /\ n <= c /\ c <= maxLen /\ n = xs.length /\ Sl w A xs /\ ∀ a,A = some a -> base <= a.block /\ v.ownBlock = some a.block:=by
 obtain ⟨h1,h2⟩:=h
 rcases h2 with ⟨rfl,rfl⟩ | ⟨g,cap,cur,fz,rfl,hb,hh,hf,hc,hm,hs,ht⟩
 ·obtain rfl : xs = []:=List.eq_nil_of_length_eq_zero h1
  exact ⟨none,0,rfl,Nat.le_refl _,Nat.zero_le _,rfl,Sl.nil _ _,fun a ha => by cases ha⟩
 ·refine ⟨some ⟨g,0,none⟩,cap,rfl,hc,hm,h1.symm,?_,fun a ha => by cases ha; exact ⟨hb,rfl⟩⟩
  intro j u hu
  refine ⟨g,0,rfl,lt_of_block hh,?_⟩
  rw [Nat.zero_add,cell_of_row w g j cur e fz hh]
  have hj : j < xs.length:=(List.getElem?_eq_some_iff.1 hu).1
  rw [<- ht,List.getElem?_take_of_lt (by omega)] at hu
  rw [<- Array.getElem?_toList]
  exact hu
end
section
variable {P : Program} (w : World)
theorem OwnM.bytes (e : TypeId) (s : ByteArray) (hs : s.size <= maxLen) (fz : Nat) (hfz : (bytesRow s (grownCap w s.size 0 e)).size <= fz) :
  OwnM (w.drew.alloc (.cells (bytesRow s (grownCap w s.size 0 e)) e (fz,fz + 1))) w.heap.size e (.slice (some ⟨w.heap.size,0,none⟩) s.size (grownCap w s.size 0 e)) s.size (s.data.toList.map fun c => .int .u8 c.toNat):=by
 have hge:=grownCap_ge w s.size 0 e
 have hcm : grownCap w s.size 0 e <= maxLen:=grownCap_le_maxLen w s.size 0 e hs
 refine ⟨by rw [List.length_map]; rfl,.inr ⟨w.heap.size,_,_,_,rfl,Nat.le_refl _,heap_alloc_new w.drew _,.inr hfz,hge,hcm,?_,?_⟩⟩
 ·simp [bytesRow]
  have : s.size = s.data.size:=rfl
  omega
 ·simp [bytesRow]
end
def Near (a l : List UInt8) : Prop:=l = a \/ (8192 < l.length /\ 8192 < a.length)
theorem Near.app {a b l m : List UInt8} (h : Near a l) (k : Near b m) : Near (a ++ b) (l ++ m):=by
 rcases h with rfl | ⟨h1,h2⟩
 ·rcases k with rfl | ⟨k1,k2⟩
  ·exact Or.inl rfl
  ·exact Or.inr ⟨by rw [List.length_append]; omega,by rw [List.length_append]; omega⟩
 ·exact Or.inr ⟨by rw [List.length_append]; omega,by rw [List.length_append]; omega⟩
theorem Near.wrap {a l : List UInt8} (x : UInt8) (h : Near a l) : Near (x :: (PB.lenB a.length ++ a)) (x :: (PB.lenB l.length ++ l)):=by
 rcases h with rfl | ⟨h1,h2⟩
 ·exact Or.inl rfl
 ·exact Or.inr ⟨by rw [List.length_cons,List.length_append]; omega,by rw [List.length_cons,List.length_append]; omega⟩
def KidsLoop (W0 : World) (ks : List Tl) (m j : Nat) (l : List UInt8) (v : Value) (wr : World) : Prop :=
 j <= ks.length /\ (∃ A c,v = .slice A l.length c) /\ OwnM wr W0.heap.size 5 v l.length (u8s l) /\ Below W0.heap.size W0 wr /\ Near (PB.encs (ks.take j)) l /\ l.length <= 20000 + m
theorem KidsLoop.next {W0 : World} {ks : List Tl} {m j : Nat} {l l2 : List UInt8} {v v2 : Value} {wr w3 : World} (h : KidsLoop W0 ks m j l v wr) (hj : j < ks.length) (hl : l.length <= 20000) (hn : Near (PB.enc ks[j]) l2) (h2 : l2.length <= m) (ho : OwnM w3 W0.heap.size 5 v2 (l.length + l2.length) (u8s l ++ u8s l2)) (hb : Below W0.heap.size W0 w3) :
  KidsLoop W0 ks m (j + 1) (l ++ l2) v2 w3:=by
 refine ⟨by omega,?_,by rw [List.length_append,u8s_app]; exact ho,hb,?_,by rw [List.length_append]; omega⟩
 ·obtain ⟨A,c,hv,_⟩:=ho.slice
  exact ⟨A,c,by rw [List.length_append]; exact hv⟩
 ·rw [List.take_succ_eq_append_getElem hj,PB.encs_app]
  have:=h.2.2.2.2.1.app hn
  simpa [PB.encs] using this
end Go.Proofs.YtbiglfpikfjbpaaGreatDoor
