import Derived.Test.YtbiglfpikfjbpaaGreatDoorM0
import Derived.Deep.MidRow
import Derived.Test.YtbiglfpikfjbpaaGreatDoorM2
import Derived.WalkSpells
import Derived.Outline
import Derived.LoopN
import Derived.Test.YtbiglfpikfjbpaaGreatDoorRows
import Derived.Test.YtbiglfpikfjbpaaGreatDoorTie
import Derived.ProofKit
import Derived.LaidMore
import Derived.OpenShut
import Derived.ShutString
import Derived.ChangeOld
import Derived.Stop.Joined
import Derived.Lib.SmallJoins
import Derived.Test.YtbiglfpikfjbpaaGreatDoorChecked
import Derived.Deep.Slices
import Derived.Deep.Fields
import Derived.ChangeSame
namespace Go.Proofs.YtbiglfpikfjbpaaGreatDoor
open Go.RowKit
open Go.ChangeShapes Go.WideShapes Go.ChangeAt Go.RowKit Go.Joins
open Go.ChangeShapes Go.WideShapes Go.ChangeAt Go.RowKit Go.Deep
set_option maxRecDepth 100000
set_option linter.unusedVariables false
set_option linter.unusedSimpArgs false
set_option maxHeartbeats 40000000
theorem eN (vs : List Value) (b : Nat) : ∀ (o : Nat) (w : World) (k : Nat),k ≠ b -> (w.setCells b o vs).heap[k]? = w.heap[k]?:=by
 induction vs with
 | nil => intro o w k _; rfl
 | cons v vs ih => intro o w k hk; exact (ih (o + 1) (w.setCell ⟨b,o,none⟩ v) k hk).trans (Below.heap_setCell w _ v k (fun e => hk e))
theorem setCells_rest (vs : List Value) (b : Nat) : ∀ (o : Nat) (w : World),(w.setCells b o vs).os = w.os /\ (w.setCells b o vs).tape = w.tape /\ (w.setCells b o vs).output = w.output /\ (w.setCells b o vs).heap.size = w.heap.size:=by
 induction vs with
 | nil => intro o w; exact ⟨rfl,rfl,rfl,rfl⟩
 | cons v vs ih =>
  intro o w
  obtain ⟨h1,h2,h3,h4⟩:=ih (o + 1) (w.setCell ⟨b,o,none⟩ v)
  exact ⟨h1,h2,h3,h4.trans (by simp [World.setCell])⟩
theorem setCells_whole (vs : List Value) (b : Nat) (t : TypeId) : ∀ (pre : List Value) (old : List Value) (w : World),old.length = vs.length -> Bk w b t (pre ++ old).toArray -> Bk (w.setCells b pre.length vs) b t (pre ++ vs).toArray:=by
 induction vs with
 | nil =>
  intro pre old w hl hb
  obtain rfl : old = []:=List.eq_nil_of_length_eq_zero (by simpa using hl)
  exact hb
 | cons v vs ih =>
  intro pre old w hl hb
  cases old with
  | nil => simp at hl
  | cons x old =>
   have h1:=hb.put pre.length v
   have e : (pre ++ x :: old).toArray.setIfInBounds pre.length v = ((pre ++ [v]) ++ old).toArray:=by simp
   rw [e] at h1
   have h2:=ih (pre ++ [v]) old (w.setCell ⟨b,pre.length,none⟩ v) (by simpa using hl) h1
   have e2 : (pre ++ [v]).length = pre.length + 1:=by simp
   rw [e2] at h2
   have e3 : pre ++ [v] ++ vs = pre ++ v :: vs:=by simp
   rw [e3] at h2
   exact h2
theorem setCells_off (vs : List Value) (b o : Nat) (w : World) : Off [b] w (w.setCells b o vs):=by
 obtain ⟨h1,h2,h3,h4⟩:=setCells_rest vs b o w
 exact ⟨h1,h2,h3,by omega,fun k _ hk => eN vs b o w k (by simpa using hk)⟩
theorem ap {P : Program} {ops : Array Oper} {rest : List Oper} {op : Oper} {a : Act} {w : World} {Q : Exit -> Act -> World -> Prop} (hgd : op.guard = none) (ty : TypeId) (x y : Operand) (ho : op.op = .store ty x y)
  (b : Nat) (hx : a.eval x = .pointer (some ⟨b,0,none⟩)) (cells : Array Value) (hy : a.eval y = .agg cells) (t : TypeId) (old : Array Value) (hb : Bk w b t old) (hsz : old.size = cells.size)
  (hi : (P.info? ty).map (·.size) = some cells.size) (h1 : cells.all (·.oneCell') = true)
  (h : ∀ w',Bk w' b t cells -> Off [b] w w' -> wpList P ops Q rest (a.put op.dst undef) w') : wpList P ops Q (op :: rest) a w:=by
 refine wpList_store_mid hgd ty x y ho b 0 cells hx hy (fun j hj => ?_) hi h1 (h _ ?_ (setCells_off _ b 0 w))
 ·rw [Nat.zero_add]
  exact ⟨by rw [hb.cell j]; simp; omega,hb.frozen j⟩
 ·have h2:=setCells_whole cells.toList b t [] old.toList w (by simpa using hsz) (by simpa using hb)
  simpa using h2
def cU (q : Bool) (w : World) (e : Ending) (w' : World) : Prop:=e = .returned (.bool q) /\ w = w'
theorem eD {q q' : Bool} {w : World} (h : q = q') : cU q w (.returned (.bool q')) w:=by subst h; exact ⟨rfl,rfl⟩
def inB (n lo hi : Int) : Bool:=decide (lo <= n) && decide (n <= hi)
theorem bh (n lo hi : Int) (w : World) : Calls Tryz.prog 30 #[.int .i64 n,.int .i64 lo,.int .i64 hi] w (cU (inB n lo hi) w):=by
 obtain ⟨q,hq⟩ : ∃ q,q = inB n lo hi:=⟨_,rfl⟩
 rw [<- hq]
 have HQ:=aa hq
 clear hq
 have hcs : (decide (lo <= n) = false /\ Hid (q = false)) \/ (decide (lo <= n) = true /\ decide (n <= hi) = false /\ Hid (q = false)) \/ (decide (lo <= n) = true /\ decide (n <= hi) = true /\ Hid (q = true)):=by
  have h:=HQ.out
  unfold inB at h
  cases h1 : decide (lo <= n) <;> cases h2 : decide (n <= hi) <;> rw [h1,h2] at h <;> simp [h,Hid]
 rcases hcs with ⟨q0,HB⟩ | ⟨q0,q1,HB⟩ | ⟨q0,q1,HB⟩
 all_goals
  go_enter Tryz.func30,Tryz.ntmps30
  go_wp2_with fail
  go_ret
  exact eD HB.out
theorem aT : (Tryz.prog.info? 30).map (·.size) = some 31:=by kernel_rfl
theorem cF (m : MC) : m.cells.all (·.oneCell') = true:=by unfold MC.cells; simp [Value.oneCell']
theorem cJ (m : MC) : m.cells.size = 31:=rfl
def dZ (m : MC) (w : World) (e : Ending) (w' : World) : Prop:=e = .returned (.agg m.cells) /\ Below w.heap.size w w'
theorem bare_any (m : MC) (w : World) : Calls Tryz.prog 33 #[.agg m.cells] w (dZ m.bare w):=by
 have HS:=aa aT
 obtain ⟨r,hr⟩ : ∃ r,r = m.bare:=⟨_,rfl⟩
 rw [<- hr]
 have HZ : Hid (r.cells.all (·.oneCell') = true):=cF _
 have HSZ : Hid (r.cells.size = 31):=cJ _
 obtain ⟨z,hz⟩ : ∃ z,z = r.cells:=⟨_,rfl⟩
 unfold dZ
 rw [<- hz]
 rw [<- hz] at HZ HSZ
 obtain ⟨id,op,version,name,sasl,secret,kind,has,value,code,text,scope,deref,size,time,types,⟨fkind,fattr,fvalue,ffirst,⟨fA,fn,fc⟩,flast,⟨kA,kn,kc⟩⟩,⟨aA,an,ac⟩,⟨lA,ln,lc⟩,⟨mA,mn,mc⟩,rdn,old,⟨dA,dn,dc⟩,other,⟨oA,on,oc⟩⟩:=m
 have hops : (op = 0 /\ sasl = true) \/ (op = 0 /\ sasl = false) \/ op = 3 \/ op = 4 \/ op = 8 \/ op = 6 \/ op = 10 \/ op = 12 \/ op = 14 \/ op = 16 \/ op = 23 \/ op = 2 \/ op = 24 \/ (op ≠ 0 /\ op ≠ 3 /\ op ≠ 4 /\ op ≠ 8 /\ op ≠ 6 /\ op ≠ 10 /\ op ≠ 12 /\ op ≠ 14 /\ op ≠ 16 /\ op ≠ 23 /\ op ≠ 2 /\ op ≠ 24):=by
  cases sasl <;> simp <;> omega
 rcases hops with ⟨h,h'⟩ | ⟨h,h'⟩ | h | h | h | h | h | h | h | h | h | h | h | h
 rotate_right
 ·obtain ⟨n0,n3,n4,n8,n6,n10,n12,n14,n16,n23,n2,n24⟩:=h
  have b0 : (op == 0) = false:=by simp [n0]
  have b3 : (op == 3) = false:=by simp [n3]
  have b4 : (op == 4) = false:=by simp [n4]
  have b8 : (op == 8) = false:=by simp [n8]
  have b6 : (op == 6) = false:=by simp [n6]
  have b10 : (op == 10) = false:=by simp [n10]
  have b12 : (op == 12) = false:=by simp [n12]
  have b14 : (op == 14) = false:=by simp [n14]
  have b16 : (op == 16) = false:=by simp [n16]
  have b23 : (op == 23) = false:=by simp [n23]
  have b2 : (op == 2) = false:=by simp [n2]
  have b24 : (op == 24) = false:=by simp [n24]
  simp only [MC.bare,n0,n3,n4,n8,n6,n10,n12,n14,n16,n23,n2,n24,if_false,false_or] at hr
  rw [hr] at hz
  unfold MC.cells Rw.none at hz
  simp only at hz
  have HZE:=aa hz
  clear hz hr n0 n3 n4 n8 n6 n10 n12 n14 n16 n23 n2 n24
  unfold MC.cells
  simp only
  go_enter Tryz.func33,Tryz.ntmps33
  go_wp2_with (first
   | (refine wpList_load_row rfl 30 (.tmp 1) rfl w.heap.size rfl 30 z (0,0) _ (by rw [HZE.out]; exact heap_alloc2_old w _ _) Tryz.underlying30 rfl (by rw [HSZ.out]; exact HS.out) ?_)
   | (refine ap rfl 30 (.tmp 2) (.tmp 71) rfl (w.heap.size + 1) rfl z rfl 30 _ (heap_alloc2_new w _ _) (by rw [HSZ.out]; rfl) (by rw [HSZ.out]; exact HS.out) HZ.out ?_; intro w3 hb3 ho3; have HB3:=aa hb3; have HO3:=aa ho3; clear hb3 ho3)
   | fail)
  refine bodyPost_ret (results_cell_row Tryz.results33 _ _ (w.heap.size + 1) 30 z (0,0) _ rfl HB3.out Tryz.underlying30 rfl (by rw [HSZ.out]; exact HS.out)) rfl ⟨rfl,?_⟩
  exact ((((Below.refl _ w).alloc (Nat.le_refl _) _).alloc (by simp) _).trans (HO3.out.below (by simp; omega) (by simp)))
 all_goals
  subst h
  try subst h'
  simp [MC.bare] at hr
  rw [hr] at hz
  unfold MC.cells at hz
  simp only [FC.zero,Rw.none] at hz
  have HZE:=aa hz
  clear hz hr
  unfold MC.cells
  simp only
  go_enter Tryz.func33,Tryz.ntmps33
  go_wp2_with (first
   | (refine wpList_load_row rfl 30 (.tmp 1) rfl w.heap.size rfl 30 z (0,0) _ (by rw [HZE.out]; exact heap_alloc2_old w _ _) Tryz.underlying30 rfl (by rw [HSZ.out]; exact HS.out) ?_)
   | (refine ap rfl 30 (.tmp 2) (.tmp 71) rfl (w.heap.size + 1) rfl z rfl 30 _ (heap_alloc2_new w _ _) (by rw [HSZ.out]; rfl) (by rw [HSZ.out]; exact HS.out) HZ.out ?_; intro w3 hb3 ho3; have HB3:=aa hb3; have HO3:=aa ho3; clear hb3 ho3)
   | fail)
  refine bodyPost_ret (results_cell_row Tryz.results33 _ _ (w.heap.size + 1) 30 z (0,0) _ rfl HB3.out Tryz.underlying30 rfl (by rw [HSZ.out]; exact HS.out)) rfl ⟨rfl,?_⟩
  exact ((((Below.refl _ w).alloc (Nat.le_refl _) _).alloc (by simp) _).trans (HO3.out.below (by simp; omega) (by simp)))
def ansRow : List Int:=[0,1,3,5,6,7,8,9,10,11,12,13,14,15,23,24]
def AnsAt (w : World) : Prop:=∀ k,k < 16 -> w.cell? ⟨0,k,none⟩ = some (.int .i64 (ansRow.getD k 0))
theorem AnsAt.off {S : List Nat} {w w' : World} (h : AnsAt w) (ho : Off S w w') (hs : 0 ∉ S) : AnsAt w':=fun k hk =>
 (ho.cell (p:=⟨0,k,none⟩) (block_lt_of_cell (h k hk)) hs).trans (h k hk)
theorem AnsAt.below {w w' : World} (h : AnsAt w) (hb : Below w.heap.size w w') : AnsAt w':=h.off (Off.of_below hb []) (by simp)
theorem AnsAt.lt {w : World} (h : AnsAt w) : 0 < w.heap.size:=block_lt_of_cell (h 0 (by decide))
def aD (op : Int) : Bool:=op == 1 || (op == 5 || (op == 7 || (op == 9 || (op == 11 || (op == 13 || (op == 15 || op == 24))))))
theorem sixteen {w : World} (h : AnsAt w) : w.cell? ⟨0,0,none⟩ = some (.int .i64 0) /\ w.cell? ⟨0,1,none⟩ = some (.int .i64 1) /\ w.cell? ⟨0,2,none⟩ = some (.int .i64 3) /\ w.cell? ⟨0,3,none⟩ = some (.int .i64 5) ∧
  w.cell? ⟨0,4,none⟩ = some (.int .i64 6) /\ w.cell? ⟨0,5,none⟩ = some (.int .i64 7) /\ w.cell? ⟨0,6,none⟩ = some (.int .i64 8) /\ w.cell? ⟨0,7,none⟩ = some (.int .i64 9) ∧
  w.cell? ⟨0,8,none⟩ = some (.int .i64 10) /\ w.cell? ⟨0,9,none⟩ = some (.int .i64 11) /\ w.cell? ⟨0,10,none⟩ = some (.int .i64 12) /\ w.cell? ⟨0,11,none⟩ = some (.int .i64 13) ∧
  w.cell? ⟨0,12,none⟩ = some (.int .i64 14) /\ w.cell? ⟨0,13,none⟩ = some (.int .i64 15) /\ w.cell? ⟨0,14,none⟩ = some (.int .i64 23) /\ w.cell? ⟨0,15,none⟩ = some (.int .i64 24) :=
 ⟨h 0 (by decide),h 1 (by decide),h 2 (by decide),h 3 (by decide),h 4 (by decide),h 5 (by decide),h 6 (by decide),h 7 (by decide),h 8 (by decide),h 9 (by decide),h 10 (by decide),h 11 (by decide),h 12 (by decide),h 13 (by decide),h 14 (by decide),h 15 (by decide)⟩
theorem ix0 (W : World) : (Instr.index 131 (.agg #[.int .i64 0,.int .i64 1,.int .i64 3,.int .i64 5,.int .i64 6,.int .i64 7,.int .i64 8,.int .i64 9,.int .i64 10,.int .i64 11,.int .i64 12,.int .i64 13,.int .i64 14,.int .i64 15,.int .i64 23,.int .i64 24]) (.int .i64 0)).run Tryz.prog W = .ok (.agg #[.int .i64 0,.int .i64 1]) W:=by kernel_rfl
theorem ix1 (W : World) : (Instr.index 131 (.agg #[.int .i64 0,.int .i64 1,.int .i64 3,.int .i64 5,.int .i64 6,.int .i64 7,.int .i64 8,.int .i64 9,.int .i64 10,.int .i64 11,.int .i64 12,.int .i64 13,.int .i64 14,.int .i64 15,.int .i64 23,.int .i64 24]) (.int .i64 1)).run Tryz.prog W = .ok (.agg #[.int .i64 3,.int .i64 5]) W:=by kernel_rfl
theorem ix2 (W : World) : (Instr.index 131 (.agg #[.int .i64 0,.int .i64 1,.int .i64 3,.int .i64 5,.int .i64 6,.int .i64 7,.int .i64 8,.int .i64 9,.int .i64 10,.int .i64 11,.int .i64 12,.int .i64 13,.int .i64 14,.int .i64 15,.int .i64 23,.int .i64 24]) (.int .i64 2)).run Tryz.prog W = .ok (.agg #[.int .i64 6,.int .i64 7]) W:=by kernel_rfl
theorem ix3 (W : World) : (Instr.index 131 (.agg #[.int .i64 0,.int .i64 1,.int .i64 3,.int .i64 5,.int .i64 6,.int .i64 7,.int .i64 8,.int .i64 9,.int .i64 10,.int .i64 11,.int .i64 12,.int .i64 13,.int .i64 14,.int .i64 15,.int .i64 23,.int .i64 24]) (.int .i64 3)).run Tryz.prog W = .ok (.agg #[.int .i64 8,.int .i64 9]) W:=by kernel_rfl
theorem ix4 (W : World) : (Instr.index 131 (.agg #[.int .i64 0,.int .i64 1,.int .i64 3,.int .i64 5,.int .i64 6,.int .i64 7,.int .i64 8,.int .i64 9,.int .i64 10,.int .i64 11,.int .i64 12,.int .i64 13,.int .i64 14,.int .i64 15,.int .i64 23,.int .i64 24]) (.int .i64 4)).run Tryz.prog W = .ok (.agg #[.int .i64 10,.int .i64 11]) W:=by kernel_rfl
theorem ix5 (W : World) : (Instr.index 131 (.agg #[.int .i64 0,.int .i64 1,.int .i64 3,.int .i64 5,.int .i64 6,.int .i64 7,.int .i64 8,.int .i64 9,.int .i64 10,.int .i64 11,.int .i64 12,.int .i64 13,.int .i64 14,.int .i64 15,.int .i64 23,.int .i64 24]) (.int .i64 5)).run Tryz.prog W = .ok (.agg #[.int .i64 12,.int .i64 13]) W:=by kernel_rfl
theorem ix6 (W : World) : (Instr.index 131 (.agg #[.int .i64 0,.int .i64 1,.int .i64 3,.int .i64 5,.int .i64 6,.int .i64 7,.int .i64 8,.int .i64 9,.int .i64 10,.int .i64 11,.int .i64 12,.int .i64 13,.int .i64 14,.int .i64 15,.int .i64 23,.int .i64 24]) (.int .i64 6)).run Tryz.prog W = .ok (.agg #[.int .i64 14,.int .i64 15]) W:=by kernel_rfl
theorem ix7 (W : World) : (Instr.index 131 (.agg #[.int .i64 0,.int .i64 1,.int .i64 3,.int .i64 5,.int .i64 6,.int .i64 7,.int .i64 8,.int .i64 9,.int .i64 10,.int .i64 11,.int .i64 12,.int .i64 13,.int .i64 14,.int .i64 15,.int .i64 23,.int .i64 24]) (.int .i64 7)).run Tryz.prog W = .ok (.agg #[.int .i64 23,.int .i64 24]) W:=by kernel_rfl
theorem fw (op : Int) (w : World) (ha : AnsAt w) : Calls Tryz.prog 63 #[.int .i64 op] w (aq (aD op) w):=by
 obtain ⟨r,hr⟩ : ∃ r,r = aD op:=⟨_,rfl⟩
 rw [<- hr]
 have HR:=aa hr
 clear hr
 have hsx:=sixteen ha
 have HSX:=aa hsx
 clear ha hsx
 have hops : op = 1 \/ op = 5 \/ op = 7 \/ op = 9 \/ op = 11 \/ op = 13 \/ op = 15 \/ op = 24 \/ (op ≠ 1 /\ op ≠ 5 /\ op ≠ 7 /\ op ≠ 9 /\ op ≠ 11 /\ op ≠ 13 /\ op ≠ 15 /\ op ≠ 24):=by omega
 rcases hops with h | h | h | h | h | h | h | h | h
 rotate_right
 ·obtain ⟨n1,n5,n7,n9,n11,n13,n15,n24⟩:=h
  have b1 : ((1 : Int) == op) = false:=by simp; omega
  have b5 : ((5 : Int) == op) = false:=by simp; omega
  have b7 : ((7 : Int) == op) = false:=by simp; omega
  have b9 : ((9 : Int) == op) = false:=by simp; omega
  have b11 : ((11 : Int) == op) = false:=by simp; omega
  have b13 : ((13 : Int) == op) = false:=by simp; omega
  have b15 : ((15 : Int) == op) = false:=by simp; omega
  have b24 : ((24 : Int) == op) = false:=by simp; omega
  have HV : Hid (aD op = false):=show _ = _ by unfold aD; simp [n1,n5,n7,n9,n11,n13,n15,n24]
  clear n1 n5 n7 n9 n11 n13 n15 n24
  obtain ⟨c0,c1,c2,c3,c4,c5,c6,c7,c8,c9,c10,c11,c12,c13,c14,c15⟩:=HSX.out
  go_enter Tryz.func63,Tryz.ntmps63
  have x0:=ix0
  have x1:=ix1
  have x2:=ix2
  have x3:=ix3
  have x4:=ix4
  have x5:=ix5
  have x6:=ix6
  have x7:=ix7
  go_wp2_with fail
  refine wp_loop_rounds 10 ?_
  repeat any_goals (rw [rounds_succ]; go_wp2_with fail)
  go_ret
  exact ah (by rw [HR.out]; first | rw [HV.out] | rfl) (by repeat (first | exact Below.refl _ _ | refine Below.alloc ?_ (by simp <;> omega) _))
 all_goals
  subst h
  have HV : Hid (True):=trivial
  obtain ⟨c0,c1,c2,c3,c4,c5,c6,c7,c8,c9,c10,c11,c12,c13,c14,c15⟩:=HSX.out
  go_enter Tryz.func63,Tryz.ntmps63
  have x0:=ix0
  have x1:=ix1
  have x2:=ix2
  have x3:=ix3
  have x4:=ix4
  have x5:=ix5
  have x6:=ix6
  have x7:=ix7
  go_wp2_with fail
  refine wp_loop_rounds 10 ?_
  repeat any_goals (rw [rounds_succ]; go_wp2_with fail)
  go_ret
  exact ah (by rw [HR.out]; first | rw [HV.out] | rfl) (by repeat (first | exact Below.refl _ _ | refine Below.alloc ?_ (by simp <;> omega) _))
theorem ownD : ownKnob Tryz.prog.godebug = none:=by kernel_rfl
theorem laidOutD : laidOutB Tryz.prog = true:=by kernel_rfl
theorem gAns : Tryz.prog.globalNamed "rollbook/msg.answers" = some 0:=by kernel_rfl
theorem tAns : (Tryz.prog.globals[0]?).map (·.type) = some 131:=by kernel_rfl
abbrev theLaid : List (String × DataW Unit):=[("rollbook/msg.answers",Rows.laid_rollbook_msg_answers)]
theorem door_met (os : Os) (args : Array Value) : laidMetH Tryz.prog theLaid ((World.doorLaid Tryz.prog 400 os).forCall (fun _ _ => 0) ⟨#[],args,[]⟩).memory :=
 laidMetH_of_parts3 (fuel:=8) (laidMet_of_run' 8 (by kernel_rfl) (by kernel_rfl)) (by kernel_rfl) (by kernel_rfl)
theorem laid_pair (i j : Nat) (hi : i < 8) (hj : j < 2) : ∃ l,(match (Rows.laid_rollbook_msg_answers : DataW Unit) with | .agg l => l[i]? | _ => Option.none) = some (.agg l) /\ l[j]? = some (.lit (.int .i64 (ansRow.getD (i * 2 + j) 0))):=by
 unfold Rows.laid_rollbook_msg_answers
 have h1 : i = 0 \/ i = 1 \/ i = 2 \/ i = 3 \/ i = 4 \/ i = 5 \/ i = 6 \/ i = 7:=by omega
 have h2 : j = 0 \/ j = 1:=by omega
 rcases h1 with rfl | rfl | rfl | rfl | rfl | rfl | rfl | rfl <;> rcases h2 with rfl | rfl <;> exact ⟨_,rfl,rfl⟩
theorem of_laid {W : World} (h : laidMetH Tryz.prog theLaid W) : AnsAt W:=by
 rw [MakeChecks.laidMetH_plain _ _ _ (by kernel_rfl)] at h
 obtain ⟨ps,⟨g0,t0,cs0,f0,p0,q0,hg0,ht0,hv0,hd0,_,_⟩,_,_⟩:=h
 obtain rfl:=Option.some.inj (gAns.symm.trans hg0)
 obtain rfl:=Option.some.inj (tAns.symm.trans ht0)
 obtain ⟨xs,m,rfl,hx,hlen,hn,hel⟩:=DataW.trod_array Tryz.underlying131 hd0
 have c1 : Tryz.prog.cellsOf 3 = 1:=by kernel_rfl
 have c2 : Tryz.prog.cellsOf 130 = 2:=by kernel_rfl
 rw [c2] at hel
 have hx1 : Rows.laid_rollbook_msg_answers = DataW.agg (xs.map (·.1)):=(Prod.mk.injEq _ _ _ _ ▸ hx).1
 intro k hk
 have hi : k / 2 < 8:=by omega
 have hj : k % 2 < 2:=by omega
 have hkk : k / 2 * 2 + k % 2 = k:=by omega
 obtain ⟨l,e4,e5⟩:=laid_pair (k / 2) (k % 2) hi hj
 rw [hkk] at e5
 rw [hx1] at e4
 simp only at e4
 have h1:=hel (k / 2) hi
 have hxk : k / 2 < xs.length:=by omega
 rw [List.getElem?_eq_getElem hxk] at h1
 have e6 : (xs.map (·.1))[k / 2]? = some (xs[k / 2]).1:=by rw [List.getElem?_map,List.getElem?_eq_getElem hxk]; rfl
 rw [e6] at e4
 have e7 : (xs[k / 2]).1 = .agg l:=Option.some.inj e4
 obtain ⟨ys,m2,_,hy,hlen2,hn2,hel2⟩:=DataW.trod_array Tryz.underlying130 h1
 rw [c1] at hel2
 have h2:=hel2 (k % 2) hj
 have hyk : k % 2 < ys.length:=by omega
 rw [List.getElem?_eq_getElem hyk] at h2
 have e8 : l = ys.map (·.1):=by
  rw [hy] at e7
  injection e7 with e7
  exact e7.symm
 have e9 : l[k % 2]? = some (ys[k % 2]).1:=by rw [e8,List.getElem?_map,List.getElem?_eq_getElem hyk]; rfl
 rw [e9] at e5
 have e10:=Option.some.inj e5
 obtain ⟨n,e1,e2,_⟩:=DataW.trod_int Tryz.underlying3 h2
 rw [World.var?_cell hg0 hv0 k]
 have hc : cs0.toList[k]? = some (.int .i64 n):=by
  have h3:=congrArg (fun l => l[0]?) e1
  simp only [List.getElem?_take,List.getElem?_drop,Nat.mul_one,Nat.zero_lt_one,if_true,Nat.add_zero] at h3
  rw [if_pos hj,hkk] at h3
  simpa using h3
 rw [Array.getElem?_toList] at hc
 rw [hc]
 rw [e2] at e10
 injection e10 with e10
 injection e10 with _ e10
 rw [e10]
def cq {α : Type} (At : World -> (Nat -> Prop) -> α -> List Value -> Prop) : Prop :=
 ∀ {w w' : World} {S T : Nat -> Prop},w.heap.size <= w'.heap.size -> (∀ b,S b -> b < w.heap.size -> w'.heap[b]? = w.heap[b]?) -> (∀ b,S b -> b < w.heap.size -> T b) -> ∀ d c,At w S d c -> At w' T d c
def RowOf {α : Type} (k : Nat) (At : World -> (Nat -> Prop) -> α -> List Value -> Prop) (w : World) (S : Nat -> Prop) (r : Rw) (ds : List α) : Prop :=
 r.n = ds.length /\ r.n <= r.c /\ r.c <= maxLen /\ ∀ (i : Nat) (d : α),ds[i]? = some d -> ∃ (b o : Nat) (c : List Value),r.A = some ⟨b,o,none⟩ /\ (S b /\ b < w.heap.size) /\ c.length = k ∧
  (∀ (j : Nat) (u : Value),c[j]? = some u -> w.cell? ⟨b,o + i * k + j,none⟩ = some u) /\ At w S d c
theorem RowOf.nil {α : Type} {k : Nat} {At : World -> (Nat -> Prop) -> α -> List Value -> Prop} (w : World) (S : Nat -> Prop) : RowOf k At w S Rw.none [] :=
 ⟨rfl,Nat.le_refl _,Nat.zero_le _,fun i d h => by simp at h⟩
theorem RowOf.keep {α : Type} {k : Nat} {At : World -> (Nat -> Prop) -> α -> List Value -> Prop} (hA : cq At) {w w' : World} {S T : Nat -> Prop} {r : Rw} {ds : List α} (h : RowOf k At w S r ds)
  (hs : w.heap.size <= w'.heap.size) (hk : ∀ b,S b -> b < w.heap.size -> w'.heap[b]? = w.heap[b]?) (hT : ∀ b,S b -> b < w.heap.size -> T b) : RowOf k At w' T r ds:=by
 obtain ⟨h1,h2,h3,h4⟩:=h
 refine ⟨h1,h2,h3,fun i d hd => ?_⟩
 obtain ⟨b,o,c,q1,q2,q3,q4,q5⟩:=h4 i d hd
 refine ⟨b,o,c,q1,⟨hT b q2.1 q2.2,Nat.lt_of_lt_of_le q2.2 hs⟩,q3,fun j u hu => ?_,hA hs hk hT d c q5⟩
 exact (World.cell?_of_block (a:=⟨b,o + i * k + j,none⟩) (hk b q2.1 q2.2)).trans (q4 j u hu)
theorem dC {k : Nat} : ∀ (css : List (List Value)),(∀ c ∈ css,c.length = k) -> ∀ (i : Nat) (c : List Value),css[i]? = some c -> ∀ j,j < k -> css.flatten[i * k + j]? = c[j]?
 | [],_,i,c,h,_,_ => by simp at h
 | x :: css,hl,i,c,h,j,hj => by
  have hx : x.length = k:=hl x (by simp)
  cases i with
  | zero =>
   obtain rfl : x = c:=by simpa using h
   rw [Nat.zero_mul,Nat.zero_add,List.flatten_cons,List.getElem?_append_left (by omega)]
  | succ i =>
   have:=dC css (fun c hc => hl c (by simp [hc])) i c (by simpa using h) j hj
   rw [List.flatten_cons,List.getElem?_append_right (by rw [hx,Nat.add_mul]; omega),<- this]
   congr 1
   rw [hx,Nat.add_mul]
   omega
def GRow {α : Type} (E : TypeId) (k : Nat) (At : World -> (Nat -> Prop) -> α -> List Value -> Prop) (w : World) (B : Nat) (v : Value) (ds : List α) : Prop :=
 ∃ css : List (List Value),css.length = ds.length /\ (∀ c ∈ css,c.length = k) /\ w.ownsRow B E k v ds.length css.flatten ∧
  ∀ (i : Nat) (d : α) (c : List Value),ds[i]? = some d -> css[i]? = some c -> At w (fun b => B <= b /\ v.ownBlock ≠ some b) d c
section
variable {α : Type} {E : TypeId} {k : Nat} {At : World -> (Nat -> Prop) -> α -> List Value -> Prop}
theorem GRow.nil (w : World) (B : Nat) : GRow E k At w B (.slice none 0 0) []:=⟨[],rfl,fun c h => by simp at h,World.ownsRow_nil _ _ _ _,fun i d c h => by simp at h⟩
theorem GRow.keep (hA : cq At) {w w' : World} {B : Nat} {v : Value} {ds : List α} (h : GRow E k At w B v ds) (hs : w.heap.size <= w'.heap.size) (hk : ∀ b,B <= b -> b < w.heap.size -> w'.heap[b]? = w.heap[b]?) : GRow E k At w' B v ds:=by
 obtain ⟨css,h1,h2,h3,h4⟩:=h
 refine ⟨css,h1,h2,?_,fun i d c hd hc => hA hs (fun b hb hlt => hk b hb.1 hlt) (fun _ h _ => h) d c (h4 i d c hd hc)⟩
 obtain ⟨a1,a2⟩:=h3
 refine ⟨a1,?_⟩
 rcases a2 with a2 | ⟨g,cap,cur,rfl,hb,hh,r⟩
 ·exact Or.inl a2
 ·exact Or.inr ⟨g,cap,cur,rfl,hb,(hk g hb (lt_of_block hh)).trans hh,r⟩
theorem GRow.off (hA : cq At) {w w' : World} {B : Nat} {v : Value} {ds : List α} {S : List Nat} (h : GRow E k At w B v ds) (ho : Off S w w') (hS : ∀ g ∈ S,g < B) : GRow E k At w' B v ds :=
 h.keep hA ho.size (fun b hb hlt => ho.block b hlt (fun hm => by have:=hS b hm; omega))
theorem GRow.below (hA : cq At) {w w' : World} {B : Nat} {v : Value} {ds : List α} (h : GRow E k At w B v ds) (hb : Below w.heap.size w w') : GRow E k At w' B v ds :=
 h.keep hA hb.size (fun b _ hlt => hb.block b hlt)
theorem GRow.lt {w : World} {B : Nat} {v : Value} {ds : List α} (h : GRow E k At w B v ds) : ∀ g,v.ownBlock = some g -> B <= g /\ g < w.heap.size:=by
 obtain ⟨css,_,_,h3,_⟩:=h
 exact h3.lt
theorem GRow.push (hA : cq At) {w w1 w2 w3 : World} {B : Nat} {v v' : Value} {ds : List α} {d : α} {c : List Value} {css : List (List Value)} (hB : B <= w.heap.size)
  (hcl : css.length = ds.length) (hck : ∀ c ∈ css,c.length = k) (hown : w.ownsRow B E k v ds.length css.flatten)
  (hall : ∀ (i : Nat) (d : α) (c : List Value),ds[i]? = some d -> css[i]? = some c -> At w (fun b => B <= b /\ v.ownBlock ≠ some b) d c)
  (h1 : ∀ b,B <= b -> b < w.heap.size -> w1.heap[b]? = w.heap[b]?) (hs1 : w.heap.size <= w1.heap.size) (hc : c.length = k) (ht : At w1 (fun b => w.heap.size <= b) d c) (h2 : Below w1.heap.size w1 w2)
  (hown3 : w3.ownsRow B E k v' (ds.length + 1) (css.flatten ++ c)) (hgr : w2.grownBy w3 v.ownBlock) (hat : v'.ownBlock = v.ownBlock \/ v'.ownBlock = some w2.heap.size) :
  GRow E k At w3 B v' (ds ++ [d]):=by
 have s2:=h2.size
 have s3:=hgr.size
 have hvlt:=hown.lt
 have hne : ∀ b,b < w2.heap.size -> v.ownBlock ≠ some b -> v'.ownBlock ≠ some b:=by
  intro b hb hn e
  rcases hat with h | h
  ·exact hn (h ▸ e)
  ·rw [h] at e; injection e with e; omega
 refine ⟨css ++ [c],by simp [hcl],fun x hx => ?_,by rw [List.flatten_append,List.length_append]; simpa using hown3,fun i x y hx hy => ?_⟩
 ·rcases List.mem_append.1 hx with hx | hx
  ·exact hck x hx
  ·rw [List.mem_singleton.1 hx]; exact hc
 ·by_cases hlt : i < ds.length
  ·rw [List.getElem?_append_left hlt] at hx
   rw [List.getElem?_append_left (by omega)] at hy
   refine hA (by omega) (fun b hb hbl => ?_) (fun b hb hbl => ⟨hb.1,hne b (by omega) hb.2⟩) _ _ (hall i x y hx hy)
   exact (hgr.block b (by omega) (fun e => hb.2 e.symm)).trans ((h2.block b (by omega)).trans (h1 b hb.1 hbl))
  ·have hi : i < (ds ++ [d]).length:=(List.getElem?_eq_some_iff.1 hx).1
   rw [List.length_append,List.length_singleton] at hi
   obtain rfl : i = ds.length:=by omega
   obtain rfl : d = x:=by simpa using hx
   rw [<- hcl] at hy
   obtain rfl : c = y:=by simpa using hy
   refine hA (by omega) (fun b hb hbl => ?_) (fun b hb hbl => ⟨by omega,hne b (by omega) (fun e => by have:=(hvlt b e).2; omega)⟩) _ _ ht
   exact (hgr.block b (by omega) (fun e => by have:=(hvlt b e.symm).2; omega)).trans (h2.block b hbl)
theorem GRow.row (hA : cq At) {w : World} {B : Nat} {v : Value} {ds : List α} (h : GRow E k At w B v ds) : ∃ r : Rw,v = .slice r.A r.n r.c /\ RowOf k At w (fun b => B <= b) r ds:=by
 obtain ⟨css,h1,h2,h3,h4⟩:=h
 obtain ⟨hl,hr⟩:=h3
 rcases hr with ⟨rfl,hn⟩ | ⟨g,cap,cur,rfl,hb,hh,hc,hm,hcs,htk⟩
 ·obtain rfl : ds = []:=List.eq_nil_of_length_eq_zero hn
  exact ⟨Rw.none,rfl,RowOf.nil _ _⟩
 ·refine ⟨⟨some ⟨g,0,none⟩,ds.length,cap⟩,rfl,rfl,by show ds.length <= cap; omega,hm,fun i d hd => ?_⟩
  have hi : i < ds.length:=(List.getElem?_eq_some_iff.1 hd).1
  obtain ⟨c,hci⟩ : ∃ c,css[i]? = some c:=⟨css[i]'(by omega),List.getElem?_eq_getElem (by omega)⟩
  have hck:=h2 c (List.mem_of_getElem? hci)
  refine ⟨g,0,c,rfl,⟨hb,lt_of_block hh⟩,hck,fun j u hu => ?_,hA (Nat.le_refl _) (fun _ _ _ => rfl) (fun _ h _ => h.1) _ _ (h4 i d c hd hci)⟩
  have hj : j < k:=by rw [<- hck]; exact (List.getElem?_eq_some_iff.1 hu).1
  rw [cell_of_row w g _ cur _ (0,0) hh,Nat.zero_add]
  have hf:=dC css h2 i c hci j hj
  rw [hu] at hf
  have hlt : i * k + j < css.flatten.length:=(List.getElem?_eq_some_iff.1 hf).1
  rw [<- htk,List.getElem?_take_of_lt (by omega)] at hf
  rw [<- Array.getElem?_toList]
  exact hf
end
def StrAt (_ : World) (_ : Nat -> Prop) (s : ByteArray) (c : List Value) : Prop:=c = [.string s] /\ s.size <= maxLen
theorem al : cq StrAt:=fun _ _ _ _ _ h => h
abbrev SRow:=RowOf 1 StrAt
inductive Fl where
 | mk (kind : Int) (attr value first : ByteArray) (any : List ByteArray) (last : ByteArray) (kids : List Fl)
def Fl.zero : Fl:=.mk 0 ⟨#[]⟩ ⟨#[]⟩ ⟨#[]⟩ [] ⟨#[]⟩ []
mutual
def FlAt (w : World) (S : Nat -> Prop) : Fl -> List Value -> Prop
 | .mk k a v f any l kids,c => ∃ q r : Rw,c = [.int .i64 k,.string a,.string v,.string f,.slice q.A q.n q.c,.string l,.slice r.A r.n r.c] /\ ((Lit.int .i64 k).wf = true /\ a.size <= maxLen /\ v.size <= maxLen /\ f.size <= maxLen /\ l.size <= maxLen) /\ SRow w S q any ∧
   (r.n = kids.length /\ r.n <= r.c /\ r.c <= maxLen) /\ FlsAt w S kids r.A 0
def FlsAt (w : World) (S : Nat -> Prop) : List Fl -> Option Addr -> Nat -> Prop
 | [],_,_ => True
 | k :: ks,A,j => (∃ (b o : Nat) (c : List Value),A = some ⟨b,o,none⟩ /\ (S b /\ b < w.heap.size) /\ c.length = 7 /\ (∀ (i : Nat) (u : Value),c[i]? = some u -> w.cell? ⟨b,o + j * 7 + i,none⟩ = some u) /\ FlAt w S k c) /\ FlsAt w S ks A (j + 1)
end
mutual
theorem FlAt.keep {w w' : World} {S T : Nat -> Prop} (hs : w.heap.size <= w'.heap.size) (hk : ∀ b,S b -> b < w.heap.size -> w'.heap[b]? = w.heap[b]?) (hT : ∀ b,S b -> b < w.heap.size -> T b) : ∀ (f : Fl) (c : List Value),FlAt w S f c -> FlAt w' T f c
 | .mk k a v f any l kids,c,h => by
  unfold FlAt at h |-
  obtain ⟨q,r,h1,h2,h3,h4,h5⟩:=h
  exact ⟨q,r,h1,h2,h3.keep al hs hk hT,h4,FlsAt.keep hs hk hT kids r.A 0 h5⟩
theorem FlsAt.keep {w w' : World} {S T : Nat -> Prop} (hs : w.heap.size <= w'.heap.size) (hk : ∀ b,S b -> b < w.heap.size -> w'.heap[b]? = w.heap[b]?) (hT : ∀ b,S b -> b < w.heap.size -> T b) : ∀ (ks : List Fl) (A : Option Addr) (j : Nat),FlsAt w S ks A j -> FlsAt w' T ks A j
 | [],_,_,_ => by unfold FlsAt; trivial
 | k :: ks,A,j,h => by
  unfold FlsAt at h |-
  obtain ⟨⟨b,o,c,q1,q2,q3,q4,q5⟩,hr⟩:=h
  exact ⟨⟨b,o,c,q1,⟨hT b q2.1 q2.2,Nat.lt_of_lt_of_le q2.2 hs⟩,q3,fun i u hu => (World.cell?_of_block (a:=⟨b,o + j * 7 + i,none⟩) (hk b q2.1 q2.2)).trans (q4 i u hu),FlAt.keep hs hk hT k c q5⟩,FlsAt.keep hs hk hT ks A (j + 1) hr⟩
end
theorem cB : cq FlAt:=fun hs hk hT d c h => FlAt.keep hs hk hT d c h
theorem FlsAt.get {w : World} {S : Nat -> Prop} : ∀ {ks : List Fl} {A : Option Addr} {j : Nat},FlsAt w S ks A j -> ∀ (i : Nat) (d : Fl),ks[i]? = some d -> ∃ (b o : Nat) (c : List Value),A = some ⟨b,o,none⟩ /\ (S b /\ b < w.heap.size) /\ c.length = 7 ∧
  (∀ (x : Nat) (u : Value),c[x]? = some u -> w.cell? ⟨b,o + (j + i) * 7 + x,none⟩ = some u) /\ FlAt w S d c
 | [],_,_,_,_,_,h => by simp at h
 | k :: ks,A,j,hk,i,d,h => by
  unfold FlsAt at hk
  obtain ⟨h0,hr⟩:=hk
  cases i with
  | zero =>
   obtain rfl : k = d:=by simpa using h
   simpa using h0
  | succ i =>
   have:=FlsAt.get hr i d (by simpa using h)
   rw [show j + 1 + i = j + (i + 1) by omega] at this
   exact this
theorem FlsAt.of {w : World} {S : Nat -> Prop} {A : Option Addr} : ∀ (ks : List Fl) (j : Nat),(∀ (i : Nat) (d : Fl),ks[i]? = some d -> ∃ (b o : Nat) (c : List Value),A = some ⟨b,o,none⟩ /\ (S b /\ b < w.heap.size) /\ c.length = 7 ∧
  (∀ (x : Nat) (u : Value),c[x]? = some u -> w.cell? ⟨b,o + (j + i) * 7 + x,none⟩ = some u) /\ FlAt w S d c) -> FlsAt w S ks A j
 | [],_,_ => by unfold FlsAt; trivial
 | k :: ks,j,h => by
  unfold FlsAt
  refine ⟨by simpa using h 0 k rfl,FlsAt.of ks (j + 1) fun i d hd => ?_⟩
  have:=h (i + 1) d (by simpa using hd)
  rw [show j + (i + 1) = j + 1 + i by omega] at this
  exact this
theorem eJ {w : World} {S : Nat -> Prop} {r : Rw} {ks : List Fl} : RowOf 7 FlAt w S r ks ↔ (r.n = ks.length /\ r.n <= r.c /\ r.c <= maxLen) /\ FlsAt w S ks r.A 0:=by
 constructor
 ·rintro ⟨h1,h2,h3,h4⟩
  exact ⟨⟨h1,h2,h3⟩,FlsAt.of ks 0 fun i d hd => by rw [Nat.zero_add]; exact h4 i d hd⟩
 ·rintro ⟨⟨h1,h2,h3⟩,h4⟩
  exact ⟨h1,h2,h3,fun i d hd => by have:=h4.get i d hd; rw [Nat.zero_add] at this; exact this⟩
abbrev At:=ByteArray × List ByteArray
def bQ (w : World) (S : Nat -> Prop) (d : At) (c : List Value) : Prop:=∃ q : Rw,c = [.string d.1,.slice q.A q.n q.c] /\ d.1.size <= maxLen /\ SRow w S q d.2
theorem aH : cq bQ:=fun hs hk hT d c ⟨q,h1,h2,h3⟩ => ⟨q,h1,h2,h3.keep al hs hk hT⟩
abbrev Md:=Int × ByteArray × List ByteArray
def dy (w : World) (S : Nat -> Prop) (d : Md) (c : List Value) : Prop:=∃ q : Rw,c = [.int .i64 d.1,.string d.2.1,.slice q.A q.n q.c] /\ ((Lit.int .i64 d.1).wf = true /\ d.2.1.size <= maxLen) /\ SRow w S q d.2.2
theorem bJ : cq dy:=fun hs hk hT d c ⟨q,h1,h2,h3⟩ => ⟨q,h1,h2,h3.keep al hs hk hT⟩
abbrev Co:=ByteArray × Bool × Bool × ByteArray
def CoAt (_ : World) (_ : Nat -> Prop) (d : Co) (c : List Value) : Prop:=c = [.string d.1,.bool d.2.1,.bool d.2.2.1,.string d.2.2.2] /\ d.1.size <= maxLen /\ d.2.2.2.size <= maxLen
theorem bV : cq CoAt:=fun _ _ _ _ _ h => h
structure Ms where
 id : Int
 op : Int
 version : Int
 name : ByteArray
 sasl : Bool
 secret : ByteArray
 kind : ByteArray
 has : Bool
 value : ByteArray
 code : Int
 text : ByteArray
 scope : Int
 deref : Int
 size : Int
 time : Int
 types : Bool
 filter : Fl
 attrs : List ByteArray
 list : List At
 mods : List Md
 rdn : ByteArray
 old : Bool
 dest : List ByteArray
 other : Int
 controls : List Co
def Ms.zero : Ms:=⟨0,0,0,⟨#[]⟩,false,⟨#[]⟩,⟨#[]⟩,false,⟨#[]⟩,0,⟨#[]⟩,0,0,0,0,false,Fl.zero,[],[],[],⟨#[]⟩,false,[],0,[]⟩
def Ms.mc (m : Ms) (f : FC) (at' li mo de co : Rw) : MC :=
 ⟨m.id,m.op,m.version,m.name,m.sasl,m.secret,m.kind,m.has,m.value,m.code,m.text,m.scope,m.deref,m.size,m.time,m.types,f,at',li,mo,m.rdn,m.old,de,m.other,co⟩
abbrev FC.cells (f : FC) : List Value:=[.int .i64 f.kind,.string f.attr,.string f.value,.string f.first,.slice f.any.A f.any.n f.any.c,.string f.last,.slice f.kids.A f.kids.n f.kids.c]
def Ms.fits (M : Ms) : Prop:=M.name.size <= maxLen /\ M.secret.size <= maxLen /\ M.kind.size <= maxLen /\ M.value.size <= maxLen /\ M.text.size <= maxLen /\ M.rdn.size <= maxLen
def MsAt (w : World) (S : Nat -> Prop) (M : Ms) (m : MC) : Prop :=
 ∃ (f : FC) (at' li mo de co : Rw),m = M.mc f at' li mo de co /\ M.fits /\ FlAt w S M.filter f.cells /\ SRow w S at' M.attrs /\ RowOf 2 bQ w S li M.list /\ RowOf 3 dy w S mo M.mods /\ SRow w S de M.dest /\ RowOf 4 CoAt w S co M.controls
theorem MsAt.keep {w w' : World} {S T : Nat -> Prop} {M : Ms} {m : MC} (h : MsAt w S M m) (hs : w.heap.size <= w'.heap.size) (hk : ∀ b,S b -> b < w.heap.size -> w'.heap[b]? = w.heap[b]?) (hT : ∀ b,S b -> b < w.heap.size -> T b) : MsAt w' T M m:=by
 obtain ⟨f,a,l,mo,d,c,h0,hf,h1,h2,h3,h4,h5,h6⟩:=h
 exact ⟨f,a,l,mo,d,c,h0,hf,FlAt.keep hs hk hT _ _ h1,h2.keep al hs hk hT,h3.keep aH hs hk hT,h4.keep bJ hs hk hT,h5.keep al hs hk hT,h6.keep bV hs hk hT⟩
theorem di (w : World) (S : Nat -> Prop) : FlAt w S Fl.zero FC.zero.cells:=by
 unfold Fl.zero FlAt
 exact ⟨Rw.none,Rw.none,rfl,⟨rfl,Nat.zero_le _,Nat.zero_le _,Nat.zero_le _,Nat.zero_le _⟩,RowOf.nil _ _,⟨rfl,Nat.le_refl _,Nat.zero_le _⟩,by unfold FlsAt; trivial⟩
def Ms.base (id op : Int) : Ms:={ Ms.zero with id:=id,op:=op }
def MC.base (id op : Int) : MC:={ MC.zero with id:=id,op:=op }
theorem MsAt.flat {w : World} {S : Nat -> Prop} {M : Ms} (hf : M.filter = Fl.zero) (h1 : M.attrs = []) (h2 : M.list = []) (h3 : M.mods = []) (h4 : M.dest = []) (h5 : M.controls = []) (h6 : M.fits) : MsAt w S M (M.mc FC.zero Rw.none Rw.none Rw.none Rw.none Rw.none) :=
 ⟨FC.zero,Rw.none,Rw.none,Rw.none,Rw.none,Rw.none,rfl,h6,by rw [hf]; exact di _ _,by rw [h1]; exact RowOf.nil _ _,by rw [h2]; exact RowOf.nil _ _,by rw [h3]; exact RowOf.nil _ _,by rw [h4]; exact RowOf.nil _ _,by rw [h5]; exact RowOf.nil _ _⟩
section
variable {H : Type} {enc : TypeId × Value -> H} {W : World} {base : Nat} {spare : Nat -> Bool} {held : Bool}
theorem plain_k {a : Addr} {k n : Nat} {cs : List Value} (hn : 0 < n) (h : W.cells? base (a.add (0 * k)) n = some cs) : ∃ b o,a = ⟨b,o,none⟩ /\ b < W.heap.size:=by
 obtain ⟨_,hl,hat⟩:=World.cells?_some h
 have h0:=hat 0 hn
 have e : (a.add (0 * k)).add 0 = a:=by simp [Addr.add]
 rw [e] at h0
 have hv : cs[0]? = some (cs[0]'(by omega)):=List.getElem?_eq_getElem (by omega)
 rw [hv] at h0
 obtain ⟨b,o,spot⟩:=a
 have hspot : spot = none:=World.cell?_spot h0
 subst hspot
 refine ⟨b,o,rfl,?_⟩
 rcases Nat.lt_or_ge b W.heap.size with hlt | hge
 ·exact hlt
 ·simp [World.cell?,Array.getElem?_eq_none hge] at h0
theorem list_of {α : Type} {P : Nat -> α -> Prop} {len : Nat} (h : ∀ i,i < len -> ∃ d,P i d) : ∃ ds : List α,ds.length = len /\ ∀ i d,ds[i]? = some d -> P i d:=by
 induction len with
 | zero => exact ⟨[],rfl,fun i d h => by simp at h⟩
 | succ n ih =>
  obtain ⟨ds,h1,h2⟩:=ih (fun i hi => h i (by omega))
  obtain ⟨d,hd⟩:=h n (by omega)
  refine ⟨ds ++ [d],by simp [h1],fun i x hx => ?_⟩
  by_cases hi : i < n
  ·exact h2 i x (by rwa [List.getElem?_append_left (by omega)] at hx)
  ·have hl : i < (ds ++ [d]).length:=(List.getElem?_eq_some_iff.1 hx).1
   simp [h1] at hl
   obtain rfl : i = n:=by omega
   rw [List.getElem?_append_right (by omega)] at hx
   obtain rfl : d = x:=by simpa [h1] using hx
   exact hd
theorem ei {α : Type} {At : World -> (Nat -> Prop) -> α -> List Value -> Prop} {TS E : TypeId} {k : Nat} (hu : Tryz.prog.underlying TS = some (.slice E)) (hk : Tryz.prog.cellsOf E = k) (hk0 : 0 < k) {N : Nat}
  (hel : ∀ n,n < N -> ∀ cs x,DataW.trod enc Tryz.prog W base spare held n E cs = some x -> ∃ d,At W (fun _ => True) d cs) {m : Nat} (hm : m <= N) {c : Value} {x : DataW H × List MemPlace} (h : DataW.trod enc Tryz.prog W base spare held m TS [c] = some x) :
  ∃ (q : Rw) (ds : List α),c = .slice q.A q.n q.c /\ RowOf k At W (fun _ => True) q ds:=by
 rcases DataW.trod_slice hu h with ⟨h0,-⟩ | ⟨a,len,cap,elems,rest,n,hn,hcs,-,hb,hl,hcm,hle,hei,-,-⟩
 ·simp only [List.cons.injEq,and_true] at h0
  subst h0
  exact ⟨Rw.none,[],rfl,RowOf.nil _ _⟩
 ·simp only [List.cons.injEq,and_true] at hcs
  subst hcs
  rw [hk] at hei
  by_cases hz : len = 0
  ·subst hz
   exact ⟨⟨some a,0,cap⟩,[],rfl,rfl,Nat.zero_le _,hcm,fun i d h => by simp at h⟩
  have h0:=hei 0 (by omega)
  rw [List.getElem?_eq_getElem (by omega)] at h0
  obtain ⟨cs0,hcs0,-⟩:=Option.bind_eq_some_iff.1 h0
  obtain ⟨b,o,rfl,hblt⟩:=plain_k hk0 hcs0
  obtain ⟨ds,hdl,hds⟩:=list_of (α:=α) (P:=fun i d => ∃ c : List Value,c.length = k /\ (∀ (j : Nat) (u : Value),c[j]? = some u -> W.cell? ⟨b,o + i * k + j,none⟩ = some u) /\ At W (fun _ => True) d c) (len:=len) (fun i hi => by
   have hi':=hei i hi
   rw [List.getElem?_eq_getElem (by omega)] at hi'
   obtain ⟨csi,hcsi,hti⟩:=Option.bind_eq_some_iff.1 hi'
   obtain ⟨d,hd⟩:=hel n (by omega) _ _ hti
   obtain ⟨-,hl',hat⟩:=World.cells?_some hcsi
   refine ⟨d,csi,hl',fun j u hu => ?_,hd⟩
   have hj : j < k:=by rw [<- hl']; exact (List.getElem?_eq_some_iff.1 hu).1
   have:=hat j hj
   rw [add_plain,add_plain,hu] at this
   exact this)
  refine ⟨⟨some ⟨b,o,none⟩,len,cap⟩,ds,rfl,hdl.symm,hl,hcm,fun i d hd => ?_⟩
  obtain ⟨c,h1,h2,h3⟩:=hds i d hd
  exact ⟨b,o,c,rfl,⟨trivial,hblt⟩,h1,h2,h3⟩
theorem ci : Tryz.prog.cellsOf 3 = 1:=by kernel_rfl
theorem cb : Tryz.prog.cellsOf 4 = 1:=by kernel_rfl
theorem cst : Tryz.prog.cellsOf 9 = 1:=by kernel_rfl
theorem csl : Tryz.prog.cellsOf 22 = 1:=by kernel_rfl
theorem cfl : Tryz.prog.cellsOf 23 = 1:=by kernel_rfl
theorem cal : Tryz.prog.cellsOf 26 = 1:=by kernel_rfl
theorem cml : Tryz.prog.cellsOf 27 = 1:=by kernel_rfl
theorem ccl : Tryz.prog.cellsOf 28 = 1:=by kernel_rfl
theorem cfil : Tryz.prog.cellsOf 25 = 7:=by kernel_rfl
theorem dQ {m : Nat} {c : Value} {x : DataW H × List MemPlace} (h : DataW.trod enc Tryz.prog W base spare held m 22 [c] = some x) : ∃ (q : Rw) (ds : List ByteArray),c = .slice q.A q.n q.c /\ SRow W (fun _ => True) q ds :=
 ei Tryz.underlying22 cst (by omega) (fun n _ cs x h => by
  obtain ⟨s,e,-,hs⟩:=DataW.trod_string Tryz.underlying9 h
  exact ⟨s,e,hs⟩) (Nat.le_refl _) h
theorem ay {α : Type} {xs : List α} {i : Nat} {y : Option α} (h : y = xs[i]?) (hi : i < xs.length) : ∃ x,y = some x:=⟨xs[i],by rw [h,List.getElem?_eq_getElem hi]⟩
theorem attr_trod {m : Nat} {cs : List Value} {x : DataW H × List MemPlace} (h : DataW.trod enc Tryz.prog W base spare held m 50 cs = some x) : ∃ d,bQ W (fun _ => True) d cs:=by
 obtain ⟨xs,n,-,-,hlen,hxl,hf⟩:=DataW.trod_struct Tryz.underlying50 h
 have hx : xs.length = 2:=hxl
 match cs,hlen.trans (show Tryz.prog.cellsOf 50 = 2 by kernel_rfl) with
 | [c0,c1],_ =>
  obtain ⟨y0,g0⟩:=ay (hf 0 _ rfl) (by omega)
  obtain ⟨y1,g1⟩:=ay (hf 1 _ rfl) (by omega)
  obtain ⟨s,e0,-,w0⟩:=DataW.trod_string Tryz.underlying9 g0
  simp [cst] at e0
  simp [csl] at g1
  obtain ⟨q,ds,rfl,hr⟩:=dQ g1
  exact ⟨(s,ds),q,by rw [e0],w0,hr⟩
theorem mod_trod {m : Nat} {cs : List Value} {x : DataW H × List MemPlace} (h : DataW.trod enc Tryz.prog W base spare held m 52 cs = some x) : ∃ d,dy W (fun _ => True) d cs:=by
 obtain ⟨xs,n,-,-,hlen,hxl,hf⟩:=DataW.trod_struct Tryz.underlying52 h
 have hx : xs.length = 3:=hxl
 match cs,hlen.trans (show Tryz.prog.cellsOf 52 = 3 by kernel_rfl) with
 | [c0,c1,c2],_ =>
  obtain ⟨y0,g0⟩:=ay (hf 0 _ rfl) (by omega)
  obtain ⟨y1,g1⟩:=ay (hf 1 _ rfl) (by omega)
  obtain ⟨y2,g2⟩:=ay (hf 2 _ rfl) (by omega)
  obtain ⟨k,e0,-,w0⟩:=DataW.trod_int Tryz.underlying3 g0
  obtain ⟨s,e1,-,w1⟩:=DataW.trod_string Tryz.underlying9 g1
  simp [ci] at e0
  simp [cst] at e1
  simp [csl] at g2
  obtain ⟨q,ds,rfl,hr⟩:=dQ g2
  exact ⟨(k,s,ds),q,by rw [e0,e1],⟨w0,w1⟩,hr⟩
theorem ctl_trod {m : Nat} {cs : List Value} {x : DataW H × List MemPlace} (h : DataW.trod enc Tryz.prog W base spare held m 54 cs = some x) : ∃ d,CoAt W (fun _ => True) d cs:=by
 obtain ⟨xs,n,-,-,hlen,hxl,hf⟩:=DataW.trod_struct Tryz.underlying54 h
 have hx : xs.length = 4:=hxl
 match cs,hlen.trans (show Tryz.prog.cellsOf 54 = 4 by kernel_rfl) with
 | [c0,c1,c2,c3],_ =>
  obtain ⟨y0,g0⟩:=ay (hf 0 _ rfl) (by omega)
  obtain ⟨y1,g1⟩:=ay (hf 1 _ rfl) (by omega)
  obtain ⟨y2,g2⟩:=ay (hf 2 _ rfl) (by omega)
  obtain ⟨y3,g3⟩:=ay (hf 3 _ rfl) (by omega)
  obtain ⟨s,e0,-,w0⟩:=DataW.trod_string Tryz.underlying9 g0
  obtain ⟨a,e1,-⟩:=DataW.trod_bool Tryz.underlying4 g1
  obtain ⟨b,e2,-⟩:=DataW.trod_bool Tryz.underlying4 g2
  obtain ⟨v,e3,-,w3⟩:=DataW.trod_string Tryz.underlying9 g3
  simp [cst] at e0
  simp [cb] at e1
  simp [cb] at e2
  simp [cst] at e3
  exact ⟨(s,a,b,v),by rw [e0,e1,e2,e3],w0,w3⟩
theorem fil_trod (fuel : Nat) : ∀ (m : Nat),m <= fuel -> ∀ (cs : List Value) (x : DataW H × List MemPlace),DataW.trod enc Tryz.prog W base spare held m 25 cs = some x -> ∃ f,FlAt W (fun _ => True) f cs:=by
 induction fuel with
 | zero =>
  intro m hm cs x h
  obtain rfl : m = 0:=by omega
  simp [DataW.trod] at h
 | succ fuel ih =>
  intro m hm cs x h
  obtain ⟨xs,n,hn,-,hlen,hxl,hf⟩:=DataW.trod_struct Tryz.underlying25 h
  have hx : xs.length = 7:=hxl
  match cs,hlen.trans cfil with
  | [c0,c1,c2,c3,c4,c5,c6],_ =>
   obtain ⟨y0,g0⟩:=ay (hf 0 _ rfl) (by omega)
   obtain ⟨y1,g1⟩:=ay (hf 1 _ rfl) (by omega)
   obtain ⟨y2,g2⟩:=ay (hf 2 _ rfl) (by omega)
   obtain ⟨y3,g3⟩:=ay (hf 3 _ rfl) (by omega)
   obtain ⟨y4,g4⟩:=ay (hf 4 _ rfl) (by omega)
   obtain ⟨y5,g5⟩:=ay (hf 5 _ rfl) (by omega)
   obtain ⟨y6,g6⟩:=ay (hf 6 _ rfl) (by omega)
   obtain ⟨k,e0,-,w0⟩:=DataW.trod_int Tryz.underlying3 g0
   obtain ⟨s1,e1,-,w1⟩:=DataW.trod_string Tryz.underlying9 g1
   obtain ⟨s2,e2,-,w2⟩:=DataW.trod_string Tryz.underlying9 g2
   obtain ⟨s3,e3,-,w3⟩:=DataW.trod_string Tryz.underlying9 g3
   obtain ⟨s5,e5,-,w5⟩:=DataW.trod_string Tryz.underlying9 g5
   simp [ci] at e0
   simp [cst] at e1
   simp [cst] at e2
   simp [cst] at e3
   simp [cst] at e5
   simp [csl] at g4
   simp [cfl] at g6
   obtain ⟨q,ds,rfl,hr⟩:=dQ g4
   obtain ⟨r,ks,rfl,hk⟩:=ei (α:=Fl) (At:=FlAt) Tryz.underlying23 cfil (by omega) (N:=n) (fun n' hn' cs x h => ih n' (by omega) cs x h) (Nat.le_refl _) g6
   obtain ⟨h1,h2⟩:=eJ.1 hk
   refine ⟨.mk k s1 s2 s3 ds s5 ks,?_⟩
   unfold FlAt
   exact ⟨q,r,by rw [e0,e1,e2,e3,e5],⟨w0,w1,w2,w3,w5⟩,hr,h1,h2⟩
end
section
variable {H : Type} {enc : TypeId × Value -> H} {W : World} {base : Nat} {spare : Nat -> Bool} {held : Bool}
theorem cmsg : Tryz.prog.cellsOf 30 = 31:=by kernel_rfl
theorem flAt_fc {S : Nat -> Prop} {F : Fl} {c : List Value} (h : FlAt W S F c) : ∃ f : FC,c = f.cells /\ FlAt W S F f.cells:=by
 have h':=h
 obtain ⟨k,a,v,g,any,l,kids⟩:=F
 unfold FlAt at h
 obtain ⟨q,r,e,-⟩:=h
 exact ⟨⟨k,a,v,g,q,l,r⟩,e,by rw [e] at h'; exact h'⟩
theorem msg_trod {m : Nat} {cs : List Value} {x : DataW H × List MemPlace} (h : DataW.trod enc Tryz.prog W base spare held m 30 cs = some x) : ∃ (M : Ms) (mc : MC),cs = mc.cells.toList /\ MsAt W (fun _ => True) M mc:=by
 obtain ⟨xs,n,-,-,hlen,hxl,hf⟩:=DataW.trod_struct Tryz.underlying30 h
 have hx : xs.length = 25:=hxl
 match cs,hlen.trans cmsg with
 | [c0,c1,c2,c3,c4,c5,c6,c7,c8,c9,c10,c11,c12,c13,c14,c15,c16,c17,c18,c19,c20,c21,c22,c23,c24,c25,c26,c27,c28,c29,c30],_ =>
  obtain ⟨y0,g0⟩:=ay (hf 0 _ rfl) (by omega)
  obtain ⟨y1,g1⟩:=ay (hf 1 _ rfl) (by omega)
  obtain ⟨y2,g2⟩:=ay (hf 2 _ rfl) (by omega)
  obtain ⟨y3,g3⟩:=ay (hf 3 _ rfl) (by omega)
  obtain ⟨y4,g4⟩:=ay (hf 4 _ rfl) (by omega)
  obtain ⟨y5,g5⟩:=ay (hf 5 _ rfl) (by omega)
  obtain ⟨y6,g6⟩:=ay (hf 6 _ rfl) (by omega)
  obtain ⟨y7,g7⟩:=ay (hf 7 _ rfl) (by omega)
  obtain ⟨y8,g8⟩:=ay (hf 8 _ rfl) (by omega)
  obtain ⟨y9,g9⟩:=ay (hf 9 _ rfl) (by omega)
  obtain ⟨y10,g10⟩:=ay (hf 10 _ rfl) (by omega)
  obtain ⟨y11,g11⟩:=ay (hf 11 _ rfl) (by omega)
  obtain ⟨y12,g12⟩:=ay (hf 12 _ rfl) (by omega)
  obtain ⟨y13,g13⟩:=ay (hf 13 _ rfl) (by omega)
  obtain ⟨y14,g14⟩:=ay (hf 14 _ rfl) (by omega)
  obtain ⟨y15,g15⟩:=ay (hf 15 _ rfl) (by omega)
  obtain ⟨y16,g16⟩:=ay (hf 16 _ rfl) (by omega)
  obtain ⟨y17,g17⟩:=ay (hf 17 _ rfl) (by omega)
  obtain ⟨y18,g18⟩:=ay (hf 18 _ rfl) (by omega)
  obtain ⟨y19,g19⟩:=ay (hf 19 _ rfl) (by omega)
  obtain ⟨y20,g20⟩:=ay (hf 20 _ rfl) (by omega)
  obtain ⟨y21,g21⟩:=ay (hf 21 _ rfl) (by omega)
  obtain ⟨y22,g22⟩:=ay (hf 22 _ rfl) (by omega)
  obtain ⟨y23,g23⟩:=ay (hf 23 _ rfl) (by omega)
  obtain ⟨y24,g24⟩:=ay (hf 24 _ rfl) (by omega)
  clear hf h hlen hxl hx
  obtain ⟨v_id,e0,-,w_id⟩:=DataW.trod_int Tryz.underlying3 g0
  simp [ci] at e0
  subst e0
  obtain ⟨v_op,e1,-,w_op⟩:=DataW.trod_int Tryz.underlying3 g1
  simp [ci] at e1
  subst e1
  obtain ⟨v_version,e2,-,w_version⟩:=DataW.trod_int Tryz.underlying3 g2
  simp [ci] at e2
  subst e2
  obtain ⟨v_name,e3,-,w_name⟩:=DataW.trod_string Tryz.underlying9 g3
  simp [cst] at e3
  subst e3
  obtain ⟨v_sasl,e4,-⟩:=DataW.trod_bool Tryz.underlying4 g4
  simp [cb] at e4
  subst e4
  obtain ⟨v_secret,e5,-,w_secret⟩:=DataW.trod_string Tryz.underlying9 g5
  simp [cst] at e5
  subst e5
  obtain ⟨v_kind,e6,-,w_kind⟩:=DataW.trod_string Tryz.underlying9 g6
  simp [cst] at e6
  subst e6
  obtain ⟨v_has,e7,-⟩:=DataW.trod_bool Tryz.underlying4 g7
  simp [cb] at e7
  subst e7
  obtain ⟨v_value,e8,-,w_value⟩:=DataW.trod_string Tryz.underlying9 g8
  simp [cst] at e8
  subst e8
  obtain ⟨v_code,e9,-,w_code⟩:=DataW.trod_int Tryz.underlying3 g9
  simp [ci] at e9
  subst e9
  obtain ⟨v_text,e10,-,w_text⟩:=DataW.trod_string Tryz.underlying9 g10
  simp [cst] at e10
  subst e10
  obtain ⟨v_scope,e11,-,w_scope⟩:=DataW.trod_int Tryz.underlying3 g11
  simp [ci] at e11
  subst e11
  obtain ⟨v_deref,e12,-,w_deref⟩:=DataW.trod_int Tryz.underlying3 g12
  simp [ci] at e12
  subst e12
  obtain ⟨v_size,e13,-,w_size⟩:=DataW.trod_int Tryz.underlying3 g13
  simp [ci] at e13
  subst e13
  obtain ⟨v_time,e14,-,w_time⟩:=DataW.trod_int Tryz.underlying3 g14
  simp [ci] at e14
  subst e14
  obtain ⟨v_types,e15,-⟩:=DataW.trod_bool Tryz.underlying4 g15
  simp [cb] at e15
  subst e15
  simp [cfil] at g16
  obtain ⟨v_filter,w0_filter⟩:=fil_trod _ _ (Nat.le_refl _) _ _ g16
  obtain ⟨fc,e16,w_filter⟩:=flAt_fc w0_filter
  simp only [FC.cells,List.cons.injEq,and_true] at e16
  obtain ⟨d0,d1,d2,d3,d4,d5,d6⟩:=e16
  subst d0 d1 d2 d3 d4 d5 d6
  simp [csl] at g17
  obtain ⟨q_attrs,v_attrs,e17,w_attrs⟩:=dQ g17
  subst e17
  simp [cal] at g18
  obtain ⟨q_list,v_list,e18,w_list⟩:=ei (α:=At) (At:=bQ) (k:=2) Tryz.underlying26 (by kernel_rfl) (by omega) (N:=n) (fun n' _ cs x h => attr_trod h) (Nat.le_refl _) g18
  subst e18
  simp [cml] at g19
  obtain ⟨q_mods,v_mods,e19,w_mods⟩:=ei (α:=Md) (At:=dy) (k:=3) Tryz.underlying27 (by kernel_rfl) (by omega) (N:=n) (fun n' _ cs x h => mod_trod h) (Nat.le_refl _) g19
  subst e19
  obtain ⟨v_rdn,e20,-,w_rdn⟩:=DataW.trod_string Tryz.underlying9 g20
  simp [cst] at e20
  subst e20
  obtain ⟨v_old,e21,-⟩:=DataW.trod_bool Tryz.underlying4 g21
  simp [cb] at e21
  subst e21
  simp [csl] at g22
  obtain ⟨q_dest,v_dest,e22,w_dest⟩:=dQ g22
  subst e22
  obtain ⟨v_other,e23,-,w_other⟩:=DataW.trod_int Tryz.underlying3 g23
  simp [ci] at e23
  subst e23
  simp [ccl] at g24
  obtain ⟨q_controls,v_controls,e24,w_controls⟩:=ei (α:=Co) (At:=CoAt) (k:=4) Tryz.underlying28 (by kernel_rfl) (by omega) (N:=n) (fun n' _ cs x h => ctl_trod h) (Nat.le_refl _) g24
  subst e24
  let M : Ms:=⟨v_id,v_op,v_version,v_name,v_sasl,v_secret,v_kind,v_has,v_value,v_code,v_text,v_scope,v_deref,v_size,v_time,v_types,v_filter,v_attrs,v_list,v_mods,v_rdn,v_old,v_dest,v_other,v_controls⟩
  exact ⟨M,M.mc fc q_attrs q_list q_mods q_dest q_controls,rfl,fc,q_attrs,q_list,q_mods,q_dest,q_controls,rfl,⟨w_name,w_secret,w_kind,w_value,w_text,w_rdn⟩,w_filter,w_attrs,w_list,w_mods,w_dest,w_controls⟩
theorem open_msg {r : Reach} {b0 : Nat} {v : Value} {d : DataW H} {p : List MemPlace} (hv : Value.okWide Tryz.prog W r b0 30 v) (h : DataW.Trod enc Tryz.prog W base spare held 30 v d p) :
  ∃ (M : Ms) (mc : MC),v = .agg mc.cells /\ MsAt W (fun _ => True) M mc:=by
 obtain ⟨cs,rfl,_⟩:=okWide_struct Tryz.underlying30 hv
 obtain ⟨fuel,hf⟩:=h
 obtain ⟨M,mc,e,hm⟩:=msg_trod hf
 refine ⟨M,mc,?_,hm⟩
 obtain ⟨l⟩:=cs
 have e' : l = mc.cells.toList:=e
 subst e'
 rfl
end
theorem ec (op : Int) (w : World) : Calls Tryz.prog 34 #[.int .i64 op] w (cU (aD op) w):=by
 obtain ⟨r,hr⟩ : ∃ r,r = aD op:=⟨_,rfl⟩
 rw [<- hr]
 have HR:=aa hr
 clear hr
 have hops : op = 1 \/ op = 5 \/ op = 7 \/ op = 9 \/ op = 11 \/ op = 13 \/ op = 15 \/ op = 24 \/ (op ≠ 1 /\ op ≠ 5 /\ op ≠ 7 /\ op ≠ 9 /\ op ≠ 11 /\ op ≠ 13 /\ op ≠ 15 /\ op ≠ 24):=by omega
 rcases hops with h | h | h | h | h | h | h | h | h
 rotate_right
 ·obtain ⟨n1,n5,n7,n9,n11,n13,n15,n24⟩:=h
  have b1 : (op == 1) = false:=by simp [n1]
  have b5 : (op == 5) = false:=by simp [n5]
  have b7 : (op == 7) = false:=by simp [n7]
  have b9 : (op == 9) = false:=by simp [n9]
  have b11 : (op == 11) = false:=by simp [n11]
  have b13 : (op == 13) = false:=by simp [n13]
  have b15 : (op == 15) = false:=by simp [n15]
  have b24 : (op == 24) = false:=by simp [n24]
  have HV : Hid (aD op = false):=show _ = _ by unfold aD; simp [n1,n5,n7,n9,n11,n13,n15,n24]
  clear n1 n5 n7 n9 n11 n13 n15 n24
  go_enter Tryz.func34,Tryz.ntmps34
  go_wp2_with fail
  go_ret
  exact eD (by rw [HR.out,HV.out])
 all_goals
  subst h
  have HV:=aa (show r = true by rw [HR.out]; rfl)
  go_enter Tryz.func34,Tryz.ntmps34
  go_wp2_with fail
  go_ret
  exact eD HV.out
theorem rin_any (n most : Int) (w : World) : Calls Tryz.prog 35 #[.int .i64 n,.int .i64 most] w (cU (inB n 0 most) w):=by
 obtain ⟨q,hq⟩ : ∃ q,q = inB n 0 most:=⟨_,rfl⟩
 rw [<- hq]
 have HQ:=aa hq
 clear hq
 have hcs : (decide (0 <= n) = false /\ Hid (q = false)) \/ (decide (0 <= n) = true /\ decide (n <= most) = false /\ Hid (q = false)) \/ (decide (0 <= n) = true /\ decide (n <= most) = true /\ Hid (q = true)):=by
  have h:=HQ.out
  unfold inB at h
  cases h1 : decide (0 <= n) <;> cases h2 : decide (n <= most) <;> rw [h1,h2] at h <;> simp [h,Hid]
 rcases hcs with ⟨q0,HB⟩ | ⟨q0,q1,HB⟩ | ⟨q0,q1,HB⟩
 all_goals
  go_enter Tryz.func35,Tryz.ntmps35
  go_wp2_with fail
  go_ret
  exact eD HB.out
def MC.only (m : MC) : MC :=
 let b : MC:={ MC.zero with id:=m.id,op:=m.op,controls:=m.controls }
 if m.op = 0 then
  if m.sasl then { b with version:=m.version,name:=m.name,sasl:=m.sasl,kind:=m.kind,has:=m.has,value:=m.value } else { b with version:=m.version,name:=m.name,secret:=m.secret }
 else if m.op = 3 then { b with name:=m.name,scope:=m.scope,deref:=m.deref,size:=m.size,time:=m.time,types:=m.types,filter:=m.filter,attrs:=m.attrs }
 else if m.op = 4 \/ m.op = 8 then { b with name:=m.name,list:=m.list }
 else if m.op = 6 then { b with name:=m.name,mods:=m.mods }
 else if m.op = 10 then { b with name:=m.name }
 else if m.op = 12 then { b with name:=m.name,rdn:=m.rdn,old:=m.old,dest:=m.dest }
 else if m.op = 14 then { b with name:=m.name,kind:=m.kind,value:=m.value }
 else if m.op = 16 then { b with other:=m.other }
 else if m.op = 23 then { b with kind:=m.kind,has:=m.has,value:=m.value }
 else if m.op = 2 then b
 else if m.op = 24 then { b with code:=m.code,name:=m.name,text:=m.text,kind:=m.kind }
 else { b with code:=m.code,name:=m.name,text:=m.text }
def aM (op : Int) : Bool:=aD op || op == 0 || op == 2 || op == 3 || op == 4 || op == 6 || op == 8 || op == 10 || op == 12 || op == 14 || op == 16 || op == 23
theorem known_cases {op : Int} (h : aM op = true) : op = 0 \/ op = 2 \/ op = 3 \/ op = 4 \/ op = 6 \/ op = 8 \/ op = 10 \/ op = 12 \/ op = 14 \/ op = 16 \/ op = 23 \/ op = 24 \/ op = 1 \/ op = 5 \/ op = 7 \/ op = 9 \/ op = 11 \/ op = 13 \/ op = 15:=by
 unfold aM aD at h
 simp at h
 omega
theorem fq (w : World) (t : TypeId) : ∀ (vs pre old : List Value),old.length = vs.length -> (w.alloc (.cells (pre ++ old).toArray t)).setCells w.heap.size pre.length vs = w.alloc (.cells (pre ++ vs).toArray t)
 | [],pre,old,h => by
  obtain rfl : old = []:=List.eq_nil_of_length_eq_zero (by simpa using h)
  rfl
 | v :: vs,pre,[],h => by simp at h
 | v :: vs,pre,x :: old,h => by
  have h1:=fq w t vs (pre ++ [v]) old (by simpa using h)
  have e : (pre ++ x :: old).toArray.setIfInBounds pre.length v = ((pre ++ [v]) ++ old).toArray:=by simp
  have e2 : (pre ++ [v]).length = pre.length + 1:=by simp
  show ((w.alloc (.cells (pre ++ x :: old).toArray t)).setCell ⟨w.heap.size,pre.length,none⟩ v).setCells w.heap.size (pre.length + 1) vs = _
  rw [World.setCell_alloc_new,e,<- e2,h1]
  simp
theorem cW {P : Program} {ops : Array Oper} {rest : List Oper} {op : Oper} {a : Act} {W w : World} {Q : Exit -> Act -> World -> Prop} (hgd : op.guard = none) (ty : TypeId) (x y : Operand) (ho : op.op = .store ty x y)
  (cells : Array Value) (t : TypeId) (old : Array Value) (hw : w = W.alloc (.cells old t)) (hx : a.eval x = .pointer (some ⟨W.heap.size,0,none⟩)) (hy : a.eval y = .agg cells) (hsz : old.size = cells.size)
  (hi : (P.info? ty).map (·.size) = some cells.size) (h1 : cells.all (·.oneCell') = true)
  (h : wpList P ops Q rest (a.put op.dst undef) (W.alloc (.cells cells t))) : wpList P ops Q (op :: rest) a w:=by
 subst hw
 have hb:=Bk.new W t old
 refine wpList_store_mid hgd ty x y ho W.heap.size 0 cells hx hy (fun j hj => ?_) hi h1 ?_
 ·rw [Nat.zero_add]
  exact ⟨by rw [hb.cell j]; simp; omega,hb.frozen j⟩
 ·have h2:=fq W t cells.toList [] old.toList (by simpa using hsz)
  simp only [List.length_nil,List.nil_append,Array.toArray_toList] at h2
  rw [h2]
  exact h
end Go.Proofs.YtbiglfpikfjbpaaGreatDoor
