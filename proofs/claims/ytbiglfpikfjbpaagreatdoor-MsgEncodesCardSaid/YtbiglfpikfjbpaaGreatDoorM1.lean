import Derived.Test.YtbiglfpikfjbpaaGreatDoorM0
import Derived.Maps.AppendAt
import Derived.OwnWalk
import Derived.Deep.DeepCutAuto
import Derived.Deep.RegionWith
import Derived.Deep.RegionHeld3
import Derived.StillTailTactics
import Derived.RegionTactic
import Derived.BigRegion
namespace Go.Proofs.YtbiglfpikfjbpaaGreatDoor
open Go.RowKit
open Go.PlainAid
set_option maxRecDepth 100000
set_option linter.unusedVariables false
set_option linter.unusedSimpArgs false
set_option maxHeartbeats 40000000
section
variable {P : Program} (w : World)
theorem eu (base : Nat) (t ty e : TypeId) (i : TypeInfo) (size : Nat) (ht : P.underlying t = some (.slice e)) (hi : P.info? e = some i)
  (v : Value) (n : Nat) (xs : List Value) (hown : w.ownsRow base e size v n xs) (c : Nat) : (Builtin.append_ #[t,t] ty #[v,.slice none 0 c]).run P w = .ok v w:=by
 rcases hown.2 with ⟨rfl,rfl⟩ | ⟨g,cap,cur,rfl,_,_,hnc,_⟩
 ·simp [Builtin.append_,run_underlying ht,sizeOf,typeInfo,hi,Builtin.lenOf,Builtin.firstCells]
 ·simp [Builtin.append_,run_underlying ht,sizeOf,typeInfo,hi,Builtin.lenOf,Builtin.firstCells,hnc,storeCells]
theorem run_append_sl (base : Nat) (t ty e : TypeId) (i : TypeInfo) (z : Value) (bytes : Nat) (ht : P.underlying t = some (.slice e)) (hi : P.info? e = some i) (hz : i.zero = some z)
  (hsize : i.size = 1) (hby : i.bytes = bytes) (hzs : z.cells.size = 1)
  (v : Value) (n : Nat) (xs : List Value) (hown : w.ownsRow base e 1 v n xs)
  (A : Option Addr) (m c : Nat) (news : List Value) (hm : news.length = m) (hr : Sl w A news) (h1 : ∀ u ∈ news,u.oneCell' = true)
  (h63 : n + m <= maxLen) (hbytes : (n + m) * bytes <= 140737488355328) (hbase : base <= w.heap.size) :
  ∃ v' w',(Builtin.append_ #[t,t] ty #[v,.slice A m c]).run P w = .ok v' w' /\ w'.ownsRow base e 1 v' (n + m) (xs ++ news) /\ w.grownBy w' v.ownBlock ∧
   (v'.ownBlock = v.ownBlock \/ v'.ownBlock = some w.heap.size):=by
 rcases A with _ | ad
 ·have hn : news = []:=by
   cases news with
   | nil => rfl
   | cons u r => obtain ⟨b,o,h,_⟩:=hr 0 u rfl; cases h
  subst hn
  obtain rfl : m = 0:=by simpa using hm.symm
  exact ⟨v,w,eu w base t ty e i 1 ht hi v n xs hown c,by simpa using hown,World.grownBy.refl w _,.inl rfl⟩
 ·have hcells : ∀ j u,news[j]? = some u -> w.cell? (ad.add j) = some u:=by
   intro j u hu
   obtain ⟨b,o,h,_,hc⟩:=hr j u hu
   injection h with h
   subst h
   have e2 : (⟨b,o,none⟩ : Addr).add j = ⟨b,o + j,none⟩:=by
    unfold Addr.add
    by_cases h0 : j = 0 <;> simp [h0]
   rw [e2]
   exact hc
  obtain ⟨v',w',hrun,h2,h3,_,h5⟩:=run_append_own_at (P:=P) w base t ty e i z 1 bytes ht hi hz hsize hby hzs (by decide) v n xs hown ad m c news (by omega) hcells h1 h63 hbytes hbase
  exact ⟨v',w',hrun,h2,h3,h5⟩
theorem aC {ops : Array Oper} {rest : List Oper} {o : Oper} {a : Act} {Q : Exit -> Act -> World -> Prop} (hgd : o.guard = none) (s x : Operand) (t : TypeId)
  (ho : o.op = .call { callee:=.builtin .append,args:=#[s,x],argTypes:=#[t,t] })
  (base : Nat) (e : TypeId) (i : TypeInfo) (z : Value) (bytes : Nat) (ht : P.underlying t = some (.slice e)) (hi : P.info? e = some i) (hz : i.zero = some z)
  (hsize : i.size = 1) (hby : i.bytes = bytes) (hzs : z.cells.size = 1)
  (v : Value) (n : Nat) (xs : List Value) (hs : a.eval s = v) (hown : w.ownsRow base e 1 v n xs)
  (A : Option Addr) (m c : Nat) (news : List Value) (hm : news.length = m) (hx : a.eval x = .slice A m c) (hr : Sl w A news) (h1 : ∀ u ∈ news,u.oneCell' = true)
  (h63 : n + m <= maxLen) (hbytes : (n + m) * bytes <= 140737488355328) (hbase : base <= w.heap.size)
  (h : ∀ v' w',w'.ownsRow base e 1 v' (n + m) (xs ++ news) -> w.grownBy w' v.ownBlock -> (v'.ownBlock = v.ownBlock \/ v'.ownBlock = some w.heap.size) -> wpList P ops Q rest (a.put o.dst v') w') : wpList P ops Q (o :: rest) a w:=by
 refine wpList_plain hgd fun K hK => ?_
 obtain ⟨v',w',hrun,h2,h3,h4⟩:=run_append_sl (P:=P) w base t o.type e i z bytes ht hi hz hsize hby hzs v n xs hown A m c news hm hr h1 h63 hbytes hbase
 unfold Oper.wp execOp
 simp only [ho,resolve,invoke,builtin,Sem.run_bind,Sem.run_pure,Result.andThen_ok,List.map_toArray,List.map_cons,List.map_nil,hs,hx,hrun]
 exact hK _ _ (h v' w' h2 h3 h4)
end
namespace PB
theorem num_from (l : List UInt8) : ∀ a : Nat,l.foldl (fun n c => n * 256 + c.toNat) a = a * 256 ^ l.length + num l:=by
 induction l with
 | nil => intro a; simp [num]
 | cons c l ih =>
  intro a
  have e : num (c :: l) = l.foldl (fun n c => n * 256 + c.toNat) c.toNat:=by simp [num]
  rw [List.foldl_cons,e,ih (a * 256 + c.toNat),ih c.toNat,List.length_cons,Nat.pow_succ,Nat.add_mul,Nat.mul_assoc,Nat.mul_comm 256 (256 ^ l.length)]
  omega
theorem ek (c : UInt8) (l : List UInt8) : num (c :: l) = c.toNat * 256 ^ l.length + num l:=by
 have e : num (c :: l) = l.foldl (fun n c => n * 256 + c.toNat) c.toNat:=by simp [num]
 rw [e,num_from]
theorem sgn_from (l : List UInt8) : ∀ a : Int,l.foldl (fun n x => n * 256 + (x.toNat : Int)) a = a * (256 ^ l.length : Nat) + (num l : Int):=by
 induction l with
 | nil => intro a; simp [num]
 | cons c l ih =>
  intro a
  rw [List.foldl_cons,ih,ek,List.length_cons,Nat.pow_succ]
  generalize 256 ^ l.length = p
  generalize num l = q
  rw [Int.natCast_mul,Int.natCast_add,Int.natCast_mul,Int.add_mul,Int.mul_assoc,Int.mul_comm (p : Int) ((256 : Nat) : Int)]
  rw [show ((256 : Nat) : Int) = 256 from rfl]
  omega
theorem sgn_cons (c : UInt8) (l : List UInt8) : sgn (c :: l) = (if c.toNat < 128 then (c.toNat : Int) else (c.toNat : Int) - 256) * (256 ^ l.length : Nat) + (num l : Int):=by
 have e : sgn (c :: l) = l.foldl (fun n x => n * 256 + (x.toNat : Int)) (if c.toNat < 128 then (c.toNat : Int) else (c.toNat : Int) - 256):=by simp [sgn,byt]
 rw [e,sgn_from]
def low (m : Int) : UInt8:=UInt8.ofNat (m % 256).toNat
def ofRun : Nat -> List UInt8 -> Int -> List UInt8
 | 0,l,_ => l
 | f + 1,l,m => if (m = 0 /\ byt l 0 < 128) \/ (m = -1 /\ 128 <= byt l 0) then l else ofRun f (low m :: l) (m / 256)
def ofNum (n : Int) : List UInt8:=ofRun 8 [low n] (n / 256)
def OfAt (n : Int) (l : List UInt8) (m : Int) : Prop :=
 1 <= l.length /\ l.length <= 8 /\ n = m * (256 ^ l.length : Nat) + (num l : Int) ∧
  (1 < l.length -> ¬ (m * 256 + byt l 0 = 0 /\ byt l 1 < 128) /\ ¬ (m * 256 + byt l 0 = -1 /\ 128 <= byt l 1)) /\ ofRun (9 - l.length) l m = ofNum n
theorem low_val (m : Int) : ((low m).toNat : Int) = m % 256:=by
 unfold low
 rw [UInt8.toNat_ofNat']
 omega
theorem OfAt.start (n : Int) : OfAt n [low n] (n / 256):=by
 refine ⟨by simp,by simp,?_,fun h => by simp at h,rfl⟩
 have:=low_val n
 rw [ek]
 simp [num]
 omega
def enough (l : List UInt8) (m : Int) : Prop:=(m = 0 /\ byt l 0 < 128) \/ (m = -1 /\ 128 <= byt l 0)
theorem OfAt.full {n : Int} {l : List UInt8} {m : Int} (h : OfAt n l m) (h1 : -9223372036854775808 <= n) (h2 : n <= 9223372036854775807) (h8 : l.length = 8) : enough l m:=by
 obtain ⟨_,_,hn,_⟩:=h
 cases l with
 | nil => simp at h8
 | cons c r =>
  have hr : r.length = 7:=by simpa using h8
  have hlt:=num_lt r
  have hc:=c.toNat_lt
  rw [ek,List.length_cons,hr] at hn
  rw [hr] at hlt
  have e8 : (256 ^ (7 + 1) : Nat) = 18446744073709551616:=by decide
  have e7 : (256 ^ 7 : Nat) = 72057594037927936:=by decide
  rw [e8,e7] at hn
  rw [e7] at hlt
  have hb : byt (c :: r) 0 = c.toNat:=rfl
  unfold enough
  rw [hb]
  generalize num r = q at *
  generalize c.toNat = cc at *
  omega
theorem OfAt.next {n : Int} {l : List UInt8} {m : Int} (h : OfAt n l m) (h1 : -9223372036854775808 <= n) (h2 : n <= 9223372036854775807) (hs : ¬ enough l m) : OfAt n (low m :: l) (m / 256):=by
 have hf : l.length ≠ 8:=fun e => hs (h.full h1 h2 e)
 obtain ⟨a1,a2,a3,a4,a5⟩:=h
 refine ⟨by simp,by simp; omega,?_,fun _ => ?_,?_⟩
 ·rw [ek,List.length_cons,Nat.pow_succ,Int.natCast_add,Int.natCast_mul,Int.natCast_mul,low_val,a3]
  generalize ((256 ^ l.length : Nat) : Int) = p
  have e : m = m / 256 * 256 + m % 256:=by omega
  have e2 : m * p = (m / 256) * 256 * p + m % 256 * p:=by rw [<- Int.add_mul,<- e]
  rw [e2,Int.mul_assoc (m / 256) 256 p,Int.mul_comm 256 p,show ((256 : Nat) : Int) = 256 from rfl]
  omega
 ·have hb0 : byt (low m :: l) 0 = (low m).toNat:=rfl
  have hb1 : byt (low m :: l) 1 = byt l 0:=rfl
  have hl:=low_val m
  rw [hb0,hb1,hl]
  have e : m / 256 * 256 + m % 256 = m:=by omega
  rw [e]
  unfold enough at hs
  omega
 ·rw [<- a5,List.length_cons,show 9 - l.length = (9 - (l.length + 1)) + 1 by omega]
  conv => rhs; unfold ofRun
  rw [if_neg (show ¬ ((m = 0 /\ byt l 0 < 128) \/ (m = -1 /\ 128 <= byt l 0)) from hs)]
theorem OfAt.done {n : Int} {l : List UInt8} {m : Int} (h : OfAt n l m) (hs : enough l m) : sgn l = n /\ isNum false l = true /\ l = ofNum n:=by
 obtain ⟨a1,a2,a3,a4,a5⟩:=h
 have a6 : l = ofNum n:=by
  rw [<- a5,show 9 - l.length = (8 - l.length) + 1 by omega]
  unfold ofRun
  rw [if_pos (show (m = 0 /\ byt l 0 < 128) \/ (m = -1 /\ 128 <= byt l 0) from hs)]
 cases l with
 | nil => simp at a1
 | cons c r =>
  have hb : byt (c :: r) 0 = c.toNat:=rfl
  unfold enough at hs
  rw [hb] at hs a4
  refine ⟨?_,?_,a6⟩
  ·rw [sgn_cons,a3,ek,List.length_cons,Nat.pow_succ]
   generalize 256 ^ r.length = p
   generalize num r = q
   rcases hs with ⟨rfl,hlt⟩ | ⟨rfl,hge⟩
   ·rw [if_pos hlt]; simp
   ·rw [if_neg (by omega),Int.sub_mul]
    simp
    omega
  ·unfold isNum
   rw [hb]
   simp only [Bool.not_false,Bool.true_and,Bool.and_eq_true,decide_eq_true_eq,Bool.not_eq_true',a1,a2,true_and]
   by_cases hl : 1 < (c :: r).length
   ·obtain ⟨b1,b2⟩:=a4 hl
    have k1 : ¬ (c.toNat = 0 /\ byt (c :: r) 1 < 128):=by intro hh; apply b1; omega
    have k2 : ¬ (c.toNat = 255 /\ 128 <= byt (c :: r) 1):=by intro hh; apply b2; omega
    cases hx : decide (1 < (c :: r).length) && (c.toNat == 0 && decide (byt (c :: r) 1 < 128) || c.toNat == 255 && decide (128 <= byt (c :: r) 1)) with
    | false => rfl
    | true =>
     exfalso
     simp at hx
     omega
   ·rw [ae hl,Bool.false_and]
end PB
def flat (c g : Int) (b : ByteArray) : Array Value:=#[.int .i64 c,.bool false,.int .i64 g,.string b,.slice none 0 0]
theorem ofBool_any (c g : Int) (x : Bool) (w : World) :
  Calls Tryz.prog 53 #[.int .i64 c,.int .i64 g,.bool x] w fun e w' => e = .returned (.agg (flat c g (if x then ⟨#[255]⟩ else ⟨#[0]⟩))) /\ Below w.heap.size w w':=by
 cases x with
 | true =>
  go_enter Tryz.func53,Tryz.ntmps53
  go_wp2
  exact bodyPost_ret (v:=.agg #[.int .i64 c,.bool false,.int .i64 g,.string ⟨#[255]⟩,.slice none 0 0]) (by simp [results,Tryz.results53,go_sem]) rfl ⟨rfl,((Below.refl _ _).alloc (Nat.le_refl _) _).alloc (by simp) _⟩
 | false =>
  go_enter Tryz.func53,Tryz.ntmps53
  go_wp2
  exact bodyPost_ret (v:=.agg #[.int .i64 c,.bool false,.int .i64 g,.string ⟨#[0]⟩,.slice none 0 0]) (by simp [results,Tryz.results53,go_sem]) rfl ⟨rfl,((Below.refl _ _).alloc (Nat.le_refl _) _).alloc (by simp) _⟩
def ef (k : Bool) (b : ByteArray) : Bool × Int:=if k then (false,4) else if b.toList == [0] then (false,0) else if b.toList == [255] then (true,0) else (false,4)
theorem bool_any (c g : Int) (k : Bool) (b : ByteArray) (A : Option Addr) (n cap : Nat) (w : World) :
  Calls Tryz.prog 98 #[.agg #[.int .i64 c,.bool k,.int .i64 g,.string b,.slice A n cap]] w fun e w' => e = .returned (.tuple #[.bool (ef k b).1,.int .i64 (ef k b).2]) /\ Below w.heap.size w w':=by
 unfold ef
 cases k with
 | true =>
  go_enter Tryz.func98,Tryz.ntmps98
  go_wp2
  go_ret2
  exact ⟨rfl,(Below.refl _ _).alloc (Nat.le_refl _) _⟩
 | false =>
  rw [if_neg (by simp)]
  cases h1 : b.toList == [0] with
  | true =>
   rw [if_pos rfl]
   go_enter Tryz.func98,Tryz.ntmps98
   go_wp2
   go_ret2
   exact ⟨rfl,(Below.refl _ _).alloc (Nat.le_refl _) _⟩
  | false =>
   rw [if_neg (by simp)]
   cases h2 : b.toList == [255] with
   | true =>
    rw [if_pos rfl]
    go_enter Tryz.func98,Tryz.ntmps98
    go_wp2
    go_ret2
    exact ⟨rfl,(Below.refl _ _).alloc (Nat.le_refl _) _⟩
   | false =>
    rw [if_neg (by simp)]
    go_enter Tryz.func98,Tryz.ntmps98
    go_wp2
    go_ret2
    exact ⟨rfl,(Below.refl _ _).alloc (Nat.le_refl _) _⟩
def fj : Value -> Nat | .slice _ n _ => n | _ => 0
theorem bN (l : List UInt8) : ∀ u ∈ u8s l,u.oneCell' = true:=by
 intro u hu
 obtain ⟨x,_,rfl⟩:=List.mem_map.1 hu
 rfl
theorem u8s_low (m : Int) : u8s [PB.low m] = [.int .u8 (m % 256)]:=by
 have:=PB.low_val m
 simp [u8s]
 omega
theorem ofAt_first (n : Int) (w : World) : ((w.alloc (.cells (flat 0 0 ⟨#[]⟩) 42)).alloc (.cells #[.int .u8 (n % 256)] 5)).ownsRow (w.heap.size + 1) 5 1 (.slice (some ⟨w.heap.size + 1,0,none⟩) 1 1) [PB.low n].length (u8s [PB.low n]) ∧
  Bk ((w.alloc (.cells (flat 0 0 ⟨#[]⟩) 42)).alloc (.cells #[.int .u8 (n % 256)] 5)) w.heap.size 42 (flat 0 0 ⟨#[]⟩) ∧
  Below w.heap.size w ((w.alloc (.cells (flat 0 0 ⟨#[]⟩) 42)).alloc (.cells #[.int .u8 (n % 256)] 5)):=by
 refine ⟨?_,(Bk.new w _ _).alloc _,((Below.refl _ _).alloc (Nat.le_refl _) _).alloc (by simp) _⟩
 rw [u8s_low]
 have h:=World.ownsRow_lit (base:=w.heap.size + 1) (e:=5) (size:=1) (w.alloc (.cells (flat 0 0 ⟨#[]⟩) 42)) #[.int .u8 (n % 256)] 1 (by simp) (by unfold maxLen; omega) rfl
 simpa using h
theorem below_five {w wr : World} (h : Below w.heap.size w wr) (c g : Int) (b : ByteArray) :
  Below w.heap.size w (((((wr.setCell ⟨w.heap.size,0,none⟩ (.int .i64 c)).setCell ⟨w.heap.size,1,none⟩ (.bool false)).setCell ⟨w.heap.size,2,none⟩ (.int .i64 g)).setCell ⟨w.heap.size,3,none⟩ (.string b)).setCell ⟨w.heap.size,4,none⟩ (.slice none 0 0)) :=
 ((((h.setCell (Nat.le_refl _) _).setCell (Nat.le_refl _) _).setCell (Nat.le_refl _) _).setCell (Nat.le_refl _) _).setCell (Nat.le_refl _) _
theorem eT {n m : Int} {L : List UInt8} {w wr w5 : World} {q cap : Nat} {v5 : Value} (h : PB.OfAt n L m) (hL : L.length <= 8) (hn1 : -9223372036854775808 <= n) (hn2 : n <= 9223372036854775807) (hs : ¬ PB.enough L m)
  (hown : w5.ownsRow (w.heap.size + 1) 5 1 v5 (1 + L.length) ([.int .u8 (m % 256)] ++ u8s L)) (hgr : (wr.alloc (.cells #[.int .u8 (m % 256)] 5)).grownBy w5 (Value.slice (some ⟨wr.heap.size,0,none⟩) 1 1).ownBlock)
  (hbk : Bk wr w.heap.size 42 (flat 0 0 ⟨#[]⟩)) (hbel : Below w.heap.size w wr) :
  PB.OfAt n (PB.low m :: L) (m / 256) /\ w5.ownsRow (w.heap.size + 1) 5 1 v5 (PB.low m :: L).length (u8s (PB.low m :: L)) /\ Bk w5 w.heap.size 42 (flat 0 0 ⟨#[]⟩) /\ Below w.heap.size w w5 ∧
   9 - fj v5 < 9 - fj (.slice (some ⟨q,0,none⟩) L.length cap):=by
 have hlt:=hbk.lt
 refine ⟨h.next hn1 hn2 hs,?_,?_,?_,?_⟩
 ·rw [show PB.low m :: L = [PB.low m] ++ L from rfl,u8s_app,u8s_low,List.length_append,List.length_singleton]
  exact hown
 ·exact (hgr.block w.heap.size (by simp; omega) (by intro e; injection e with e; simp at e; omega)).trans (hbk.alloc _)
 ·exact (hbel.alloc hbel.size _).grown hgr (by have:=hbel.size; simp; omega) (fun k hk => by injection hk with hk; have:=hbel.size; simp at hk; omega)
 ·obtain ⟨A,c,rfl,_⟩:=cx hown
  simp [fj]
  omega
theorem ft (c g n : Int) (w : World) (hn1 : -9223372036854775808 <= n) (hn2 : n <= 9223372036854775807) :
  Calls Tryz.prog 19 #[.int .i64 c,.int .i64 g,.int .i64 n] w fun e w' => (∃ b : ByteArray,e = .returned (.agg (flat c g b)) /\ b.size <= 8 /\ PB.sgn b.data.toList = n /\ PB.isNum false b.data.toList = true /\ b.data.toList = PB.ofNum n) /\ Below w.heap.size w w':=by
 obtain ⟨i0,hi,hz0,hz1,hz2⟩:=info_parts info_u8
 go_enter Tryz.func19,Tryz.ntmps19
 go_wp2_with fail
 go_loopw [7,8] (fun v i wr => ∃ (L : List UInt8) (m : Int),i = .int .i64 m /\ Hid (PB.OfAt n L m) /\ -36028797018963968 <= m /\ m <= 36028797018963968 /\ wr.ownsRow (w.heap.size + 1) 5 1 v L.length (u8s L) /\ Bk wr w.heap.size 42 (flat 0 0 ⟨#[]⟩) /\ Below w.heap.size w wr) (fun v _ _ => 9 - fj v)
 case atStart => exact ⟨[PB.low n],_,rfl,PB.OfAt.start n,by omega,by omega,ofAt_first n w⟩
 case round =>
  obtain ⟨L,m,rfl,HO,hm1,hm2,hown,hbk,hbel⟩:=hrel
  have hL:=HO.out.1
  have hL8:=HO.out.2.1
  have hws:=hbel.size
  have hwlt:=hbk.lt
  obtain ⟨q,cap,rfl,hq1,hq2⟩:=hown.form hL
  have hc0:=own_u8_cell hown 0 hL
  have hb0:=PB.byt_lt L 0
  have HLIT:=aa (World.ownsRow_lit (base:=w.heap.size + 1) (e:=5) (size:=1) wr #[.int .u8 (m % 256)] 1 (by omega) (by unfold maxLen; omega) rfl)
  have HSL:=aa (Sl.of_own (hown.alloc (.cells #[.int .u8 (m % 256)] 5)))
  have hen:=PB.enough.eq_1 L m
  generalize PB.byt L 0 = b0 at hc0 hb0 hen
  by_cases hm0 : m = 0
  ·by_cases h128 : b0 < 128
   ·have hstop : PB.enough L m:=by rw [hen]; omega
    have q1 : (m == 0) = true:=by simp; omega
    have q2 : decide ((b0 : Int) < 128) = true:=by simp; omega
    clear hm0 h128 hen
    all_goals
     obtain ⟨hd1,hd2,hd4⟩:=HO.out.done hstop
     have hconv:=cR hown
     have hd3:=HO.out.2.1
     have HD1:=aa hd1
     have HD2:=aa hd2
     have HD4:=aa hd4
     have z0:=hbk.cell 0
     have z1:=hbk.cell 1
     have z2:=hbk.cell 2
     have z3:=hbk.cell 3
     have z4:=hbk.cell 4
     have y0:=hbk.frozen 0
     have y1:=hbk.frozen 1
     have y2:=hbk.frozen 2
     have y3:=hbk.frozen 3
     have y4:=hbk.frozen 4
     simp [flat] at z0 z1 z2 z3 z4
     clear hd1 hd2 hd4
     go_wp2_with fail
     refine bodyPost_ret (v:=.agg (flat c g ⟨L.toArray⟩)) ?_ rfl ⟨⟨⟨L.toArray⟩,rfl,hL8,HD1.out,HD2.out,HD4.out⟩,?_⟩
     ·simp [results,Tryz.results19,go_sem,flat,z0,z1,z2,z3,z4]
     ·exact below_five hbel c g ⟨L.toArray⟩
   ·have hstop : ¬ PB.enough L m:=by rw [hen]; omega
    have q1 : (m == 0) = true:=by simp; omega
    have q2 : decide ((b0 : Int) < 128) = false:=by simp; omega
    have q3 : (m == -1) = false:=by simp; omega
    clear hm0 h128 hen
    all_goals
     go_wp2_with (at_builtin; refine aC _ rfl (.tmp 37) (.tmp 38) 90 rfl (w.heap.size + 1) 5 i0 (.int .u8 0) 1 Tryz.underlying90 hi hz0 hz1 hz2 rfl (.slice (some ⟨wr.heap.size,0,none⟩) 1 1) 1 [.int .u8 (m % 256)] rfl HLIT.out (some ⟨q,0,none⟩) L.length cap (u8s L) (cj L) rfl HSL.out (bN L) (by unfold maxLen; omega) (by omega) (by simp; omega) ?_; intro v5 w5 hown5 hgrow5 hat5)
     have hnx:=eT (q:=q) (cap:=cap) HO.out (by omega) hn1 hn2 hstop hown5 hgrow5 hbk hbel
     clear hown5 hgrow5 hat5 hbk hbel hown
     obtain ⟨hx1,hx2,hx3,hx4,hx5⟩:=hnx
     have HO5:=aa hx1
     clear hx1
     go_roundw
     case rel => exact ⟨_,_,rfl,HO5,by omega,by omega,hx2,hx3,hx4⟩
     case measure => exact hx5
  ·by_cases hm1' : m = -1
   ·by_cases h128 : b0 < 128
    ·have hstop : ¬ PB.enough L m:=by rw [hen]; omega
     have q1 : (m == 0) = false:=by simp; omega
     have q2 : decide ((128 : Int) <= b0) = false:=by simp; omega
     have q3 : (m == -1) = true:=by simp; omega
     clear hm0 h128 hen hm1'
     go_wp2_with (at_builtin; refine aC _ rfl (.tmp 37) (.tmp 38) 90 rfl (w.heap.size + 1) 5 i0 (.int .u8 0) 1 Tryz.underlying90 hi hz0 hz1 hz2 rfl (.slice (some ⟨wr.heap.size,0,none⟩) 1 1) 1 [.int .u8 (m % 256)] rfl HLIT.out (some ⟨q,0,none⟩) L.length cap (u8s L) (cj L) rfl HSL.out (bN L) (by unfold maxLen; omega) (by omega) (by simp; omega) ?_; intro v5 w5 hown5 hgrow5 hat5)
     have hnx:=eT (q:=q) (cap:=cap) HO.out (by omega) hn1 hn2 hstop hown5 hgrow5 hbk hbel
     clear hown5 hgrow5 hat5 hbk hbel hown
     obtain ⟨hx1,hx2,hx3,hx4,hx5⟩:=hnx
     have HO5:=aa hx1
     clear hx1
     go_roundw
     case rel => exact ⟨_,_,rfl,HO5,by omega,by omega,hx2,hx3,hx4⟩
     case measure => exact hx5
    ·have hstop : PB.enough L m:=by rw [hen]; omega
     have q1 : (m == 0) = false:=by simp; omega
     have q2 : decide ((128 : Int) <= b0) = true:=by simp; omega
     have q3 : (m == -1) = true:=by simp; omega
     clear hm0 h128 hen hm1'
     obtain ⟨hd1,hd2,hd4⟩:=HO.out.done hstop
     have hconv:=cR hown
     have hd3:=HO.out.2.1
     have HD1:=aa hd1
     have HD2:=aa hd2
     have HD4:=aa hd4
     have z0:=hbk.cell 0
     have z1:=hbk.cell 1
     have z2:=hbk.cell 2
     have z3:=hbk.cell 3
     have z4:=hbk.cell 4
     have y0:=hbk.frozen 0
     have y1:=hbk.frozen 1
     have y2:=hbk.frozen 2
     have y3:=hbk.frozen 3
     have y4:=hbk.frozen 4
     simp [flat] at z0 z1 z2 z3 z4
     clear hd1 hd2 hd4
     go_wp2_with fail
     refine bodyPost_ret (v:=.agg (flat c g ⟨L.toArray⟩)) ?_ rfl ⟨⟨⟨L.toArray⟩,rfl,hL8,HD1.out,HD2.out,HD4.out⟩,?_⟩
     ·simp [results,Tryz.results19,go_sem,flat,z0,z1,z2,z3,z4]
     ·exact below_five hbel c g ⟨L.toArray⟩
   ·have hstop : ¬ PB.enough L m:=by rw [hen]; omega
    have q1 : (m == 0) = false:=by simp; omega
    have q3 : (m == -1) = false:=by simp; omega
    clear hm0 hen hm1'
    all_goals
     go_wp2_with (at_builtin; refine aC _ rfl (.tmp 37) (.tmp 38) 90 rfl (w.heap.size + 1) 5 i0 (.int .u8 0) 1 Tryz.underlying90 hi hz0 hz1 hz2 rfl (.slice (some ⟨wr.heap.size,0,none⟩) 1 1) 1 [.int .u8 (m % 256)] rfl HLIT.out (some ⟨q,0,none⟩) L.length cap (u8s L) (cj L) rfl HSL.out (bN L) (by unfold maxLen; omega) (by omega) (by simp; omega) ?_; intro v5 w5 hown5 hgrow5 hat5)
     have hnx:=eT (q:=q) (cap:=cap) HO.out (by omega) hn1 hn2 hstop hown5 hgrow5 hbk hbel
     clear hown5 hgrow5 hat5 hbk hbel hown
     obtain ⟨hx1,hx2,hx3,hx4,hx5⟩:=hnx
     have HO5:=aa hx1
     clear hx1
     go_roundw
     case rel => exact ⟨_,_,rfl,HO5,by omega,by omega,hx2,hx3,hx4⟩
     case measure => exact hx5
namespace PB
def lenB (n : Nat) : List UInt8 :=
 if n < 128 then [UInt8.ofNat n] else if n < 256 then [129,UInt8.ofNat n] else if n < 65536 then [130,UInt8.ofNat (n / 256),UInt8.ofNat (n % 256)] else
 [131,UInt8.ofNat (n / 65536),UInt8.ofNat (n / 256 % 256),UInt8.ofNat (n % 256)]
def LenAt (n : Nat) (l : List UInt8) (m : Nat) : Prop :=
 (l = [] /\ m = n) \/ (l = [low n] /\ m = n / 256) \/ (l = [low (n / 256 : Nat),low n] /\ m = 0 /\ 256 <= n)
theorem low_nat (n : Nat) : low (n : Int) = UInt8.ofNat (n % 256):=by
 unfold low
 rw [show ((n : Int) % 256).toNat = n % 256 by omega]
theorem lenAt_next {n : Nat} {l : List UInt8} {m : Nat} (h : LenAt n l m) (hn : 128 <= n) (hn2 : n <= 8192) (hm : 0 < m) : LenAt n (low (m : Int) :: l) (m / 256) /\ (low (m : Int) :: l).length <= 2 /\ m / 256 < m:=by
 rcases h with ⟨rfl,rfl⟩ | ⟨rfl,rfl⟩ | ⟨rfl,rfl,_⟩
 ·exact ⟨Or.inr (Or.inl ⟨rfl,rfl⟩),by simp,by omega⟩
 ·exact ⟨Or.inr (Or.inr ⟨rfl,by omega,by omega⟩),by simp,by omega⟩
 ·omega
theorem ofNat_mod (n : Nat) : UInt8.ofNat (n % 256) = UInt8.ofNat n:=by
 apply UInt8.toNat_inj.1
 rw [UInt8.toNat_ofNat',UInt8.toNat_ofNat']
 omega
theorem lenAt_end {n : Nat} {l : List UInt8} (h : LenAt n l 0) (hn : 128 <= n) (hn6 : n < 65536) : (l = [low n] /\ lenB n = 129 :: [low (n : Int)]) \/ (l = [low (n / 256 : Nat),low n] /\ lenB n = 130 :: [low ((n / 256 : Nat) : Int),low (n : Int)]):=by
 rcases h with ⟨rfl,h⟩ | ⟨rfl,h⟩ | ⟨rfl,_,h⟩
 ·omega
 ·left
  refine ⟨rfl,?_⟩
  unfold lenB
  rw [if_neg (by omega),if_pos (by omega),low_nat,ofNat_mod]
 ·right
  refine ⟨rfl,?_⟩
  unfold lenB
  rw [if_neg (by omega),if_neg (by omega)]
  have e1 : low ((n / 256 : Nat) : Int) = UInt8.ofNat (n / 256):=by rw [low_nat,ofNat_mod]
  have e2 : low (n : Int) = UInt8.ofNat (n % 256):=low_nat n
  rw [e1,e2,if_pos hn6]
end PB
def TellsS (s : ByteArray) (w : World) (e : Ending) (w' : World) : Prop:=e = .returned (.string s) /\ Below w.heap.size w w'
theorem fM {s s' : ByteArray} {w w' : World} (h : s' = s) (hb : Below w.heap.size w w') : TellsS s w (.returned (.string s')) w':=by
 subst h
 exact ⟨rfl,hb⟩
theorem length_small (n : Nat) (w : World) (hn : n < 128) : Calls Tryz.prog 89 #[.int .i64 n] w (TellsS ⟨(PB.lenB n).toArray⟩ w):=by
 have q1 : decide ((n : Int) < 128) = true:=by simp; omega
 have hown:=World.ownsRow_lit (base:=0) (e:=5) (size:=1) w #[.int .u8 n] 1 (Nat.zero_le _) (by unfold maxLen; omega) rfl
 have e : (#[Value.int .u8 n]).toList = u8s [UInt8.ofNat n]:=by simp [u8s]; omega
 rw [e] at hown
 have hconv:=cR (L:=[UInt8.ofNat n]) hown
 have HE:=aa (show PB.lenB n = [UInt8.ofNat n] by unfold PB.lenB; rw [if_pos hn])
 clear hown e
 go_enter Tryz.func89,Tryz.ntmps89
 go_wp2_with fail
 go_ret
 exact fM (by rw [HE.out]) ((Below.refl _ _).alloc (Nat.le_refl _) _)
theorem length_large (n : Nat) (w : World) (hn : 128 <= n) (hn2 : n <= 8192) : Calls Tryz.prog 89 #[.int .i64 n] w (TellsS ⟨(PB.lenB n).toArray⟩ w):=by
 obtain ⟨i0,hi,hz0,hz1,hz2⟩:=info_parts info_u8
 have q1 : decide ((n : Int) < 128) = false:=by simp; omega
 go_enter Tryz.func89,Tryz.ntmps89
 go_wp2_with fail
 go_loopw [3,4] (fun v i wr => ∃ (L : List UInt8) (m : Nat),i = .int .i64 m /\ Hid (PB.LenAt n L m) /\ m <= 8192 /\ L.length <= 2 /\ wr.ownsRow w.heap.size 5 1 v L.length (u8s L) /\ Below w.heap.size w wr) (fun _ i _ => (intOf i).toNat)
 case atStart => exact ⟨[],n,rfl,Or.inl ⟨rfl,rfl⟩,hn2,by simp,World.ownsRow_nil _ _ _ _,Below.refl _ _⟩
 case round =>
  obtain ⟨L,m,rfl,HL,hm,hL2,hown,hbel⟩:=hrel
  have hws:=hbel.size
  obtain ⟨A,cap,rfl,hcp,-,-,hsl,-⟩:=cx hown
  by_cases hm0 : 0 < m
  ·have q2 : decide ((0 : Int) < m) = true:=by simp; omega
   have HLIT:=aa (World.ownsRow_lit (base:=w.heap.size) (e:=5) (size:=1) wr #[.int .u8 ((m : Int) % 256)] 1 (by omega) (by unfold maxLen; omega) rfl)
   have HSL:=aa (hsl.below ((Below.refl _ _).alloc (Nat.le_refl _) (.cells #[.int .u8 ((m : Int) % 256)] 5)))
   go_wp2_with (at_builtin; refine aC _ rfl (.tmp 18) (.tmp 19) 90 rfl w.heap.size 5 i0 (.int .u8 0) 1 Tryz.underlying90 hi hz0 hz1 hz2 rfl (.slice (some ⟨wr.heap.size,0,none⟩) 1 1) 1 [.int .u8 ((m : Int) % 256)] rfl HLIT.out A L.length cap (u8s L) (cj L) rfl HSL.out (bN L) (by unfold maxLen; omega) (by omega) (by simp; omega) ?_; intro v5 w5 hown5 hgrow5 hat5)
   obtain ⟨hx1,hx2,hx3⟩:=PB.lenAt_next HL.out hn hn2 hm0
   have hown6 : w5.ownsRow w.heap.size 5 1 v5 (PB.low (m : Int) :: L).length (u8s (PB.low (m : Int) :: L)):=by
    rw [show PB.low (m : Int) :: L = [PB.low (m : Int)] ++ L from rfl,u8s_app,u8s_low,List.length_append,List.length_singleton]
    exact hown5
   have hb5 : Below w.heap.size w w5:=(hbel.alloc hws _).grown hgrow5 (by simp; omega) (fun k hk => by injection hk with hk; simp at hk; omega)
   have HX1:=aa hx1
   clear hown5 hgrow5 hat5 hx1
   go_roundw
   case rel => exact ⟨_,m / 256,by go_num,HX1,by omega,hx2,hown6,hb5⟩
   case measure => simp [intOf]; omega
  ·have q2 : decide ((0 : Int) < m) = false:=by simp; omega
   obtain rfl : m = 0:=by omega
   have hcs:=PB.lenAt_end HL.out hn (by omega)
   rcases hcs with ⟨rfl,he⟩ | ⟨rfl,he⟩
   ·have HE:=aa he
    clear he HL hm0 hL2
    have HLIT:=aa (World.ownsRow_lit (base:=w.heap.size) (e:=5) (size:=1) wr #[.int .u8 129] 1 (by omega) (by unfold maxLen; omega) rfl)
    have HSL:=aa (hsl.below ((Below.refl _ _).alloc (Nat.le_refl _) (.cells #[.int .u8 129] 5)))
    have hor : bits BinOp.or IntKind.i64 128 1 = 129:=by decide
    have hconv : ∀ (W : World) (v : Value) (b0 : Nat),W.ownsRow b0 5 1 v (1 + 1) ([.int .u8 129] ++ u8s [PB.low (n : Int)]) -> (convert 90 9 v).run Tryz.prog W = .ok (.string ⟨(129 :: [PB.low (n : Int)]).toArray⟩) W:=by
     intro W v b0 ho
     obtain ⟨g,cp,rfl,_⟩:=ho.form (by omega)
     exact cR (L:=129 :: [PB.low (n : Int)]) ho
    have HC:=aa hconv
    clear hconv
    simp only [List.length_cons,List.length_nil,Nat.zero_add,Nat.reduceAdd] at *
    go_wp2_with (at_builtin; refine aC _ rfl (.tmp 25) (.tmp 26) 90 rfl w.heap.size 5 i0 (.int .u8 0) 1 Tryz.underlying90 hi hz0 hz1 hz2 rfl (.slice (some ⟨wr.heap.size,0,none⟩) 1 1) 1 [.int .u8 129] rfl HLIT.out A 1 cap (u8s [PB.low (n : Int)]) rfl rfl HSL.out (bN _) (by unfold maxLen; omega) (by omega) (by simp; omega) ?_; intro v5 w5 hown5 hgrow5 hat5; have hcv:=HC.out _ _ _ hown5; have hb5 : Below w.heap.size w w5:=(hbel.alloc hws _).grown hgrow5 (by simp; omega) (fun k hk => by injection hk with hk; simp at hk; omega); clear hown5 hgrow5 hat5)
    go_ret
    exact fM (by rw [HE.out]) hb5
   ·have HE:=aa he
    clear he HL hm0 hL2
    generalize PB.low ((n / 256 : Nat) : Int) = x at *
    generalize PB.low (n : Int) = y at *
    have HLIT:=aa (World.ownsRow_lit (base:=w.heap.size) (e:=5) (size:=1) wr #[.int .u8 130] 1 (by omega) (by unfold maxLen; omega) rfl)
    have HSL:=aa (hsl.below ((Below.refl _ _).alloc (Nat.le_refl _) (.cells #[.int .u8 130] 5)))
    have hor : bits BinOp.or IntKind.i64 128 2 = 130:=by decide
    have hconv : ∀ (W : World) (v : Value) (b0 : Nat),W.ownsRow b0 5 1 v (1 + 2) ([.int .u8 130] ++ u8s [x,y]) -> (convert 90 9 v).run Tryz.prog W = .ok (.string ⟨(130 :: [x,y]).toArray⟩) W:=by
     intro W v b0 ho
     obtain ⟨g,cp,rfl,_⟩:=ho.form (by omega)
     exact cR (L:=130 :: [x,y]) ho
    have HC:=aa hconv
    clear hconv
    simp only [List.length_cons,List.length_nil,Nat.zero_add,Nat.reduceAdd] at *
    go_wp2_with (at_builtin; refine aC _ rfl (.tmp 25) (.tmp 26) 90 rfl w.heap.size 5 i0 (.int .u8 0) 1 Tryz.underlying90 hi hz0 hz1 hz2 rfl (.slice (some ⟨wr.heap.size,0,none⟩) 1 1) 1 [.int .u8 130] rfl HLIT.out A 2 cap (u8s [x,y]) rfl rfl HSL.out (bN _) (by unfold maxLen; omega) (by omega) (by simp; omega) ?_; intro v5 w5 hown5 hgrow5 hat5; have hcv:=HC.out _ _ _ hown5; have hb5 : Below w.heap.size w w5:=(hbel.alloc hws _).grown hgrow5 (by simp; omega) (fun k hk => by injection hk with hk; simp at hk; omega); clear hown5 hgrow5 hat5)
    go_ret
    exact fM (by rw [HE.out]) hb5
theorem nat_or_64 (n c : Nat) (hc : c < 64) : n * 64 ||| c = n * 64 + c:=by
 have h:=Nat.two_pow_add_eq_or_of_lt (i:=6) (b:=c) (by simpa using hc) n
 have e : (2 : Nat) ^ 6 * n = n * 64:=by omega
 rw [e] at h
 exact h.symm
theorem i64_or_64 (n c : Int) (h0 : 0 <= n) (h1 : n < 16777216) (h2 : 0 <= c) (h3 : c < 64) : bits BinOp.or IntKind.i64 (n * 64) c = n * 64 + c:=by
 obtain ⟨a,rfl⟩:=Int.eq_ofNat_of_zero_le h0
 obtain ⟨b,rfl⟩:=Int.eq_ofNat_of_zero_le h2
 have h4 : a * 64 < 2 ^ 40:=by omega
 have h5 : b < 2 ^ 40:=by omega
 have h:=(bits_nat .i64 40 (by decide) wraps_i64 (a * 64) b h4 h5).2
 rw [nat_or_64 a b (by omega)] at h
 have e : ((a * 64 : Nat) : Int) = (a : Int) * 64:=by omega
 rw [Int.natCast_add,e] at h
 exact h
theorem length_le (n : Nat) (w : World) (hn : n <= 8192) : Calls Tryz.prog 89 #[.int .i64 n] w (TellsS ⟨(PB.lenB n).toArray⟩ w):=by
 by_cases h : n < 128
 ·exact length_small n w h
 ·exact length_large n w (by omega) hn
theorem conv_one (x : UInt8) (W : World) (k : Nat) (h : W.cell? ⟨k,0,none⟩ = some (.int .u8 x.toNat)) : (convert 90 9 (.slice (some ⟨k,0,none⟩) 1 1)).run Tryz.prog W = .ok (.string ⟨[x].toArray⟩) W:=by
 have h1:=run_convert_bytes_arg W 90 5 Tryz.underlying90 Tryz.underlying5 k 0 1 1 [(x.toNat : Int)] rfl (fun i hi => by
  obtain rfl : i = 0:=by omega
  exact h) 9 Tryz.underlying9
 rw [h1]
 have e : strOfNums [(x.toNat : Int)] = ⟨[x].toArray⟩:=by
  apply dB
  rw [strOfNums_data]
  simp
 rw [e]
theorem lenB_size (n : Nat) : (⟨(PB.lenB n).toArray⟩ : ByteArray).size <= 4:=by
 show (PB.lenB n).length <= 4
 unfold PB.lenB
 repeat' split
 all_goals simp
theorem bcell {W w1 : World} (hb : Below W.heap.size W w1) : (∀ b o,b < W.heap.size -> w1.cell? ⟨b,o,none⟩ = W.cell? ⟨b,o,none⟩) /\ (∀ b o,b < W.heap.size -> w1.frozen? ⟨b,o,none⟩ = W.frozen? ⟨b,o,none⟩) :=
 ⟨fun b o h => hb.cell (p:=⟨b,o,none⟩) h,fun b o h => hb.frozen (p:=⟨b,o,none⟩) h⟩
theorem af {w w' : World} {g : Nat} {t : TypeId} {cs : Array Value} (h : Bk w g t cs) (hb : Below w.heap.size w w') : Bk w' g t cs:=(hb.block g h.lt).trans h
theorem Bk.five {w : World} {g : Nat} {t : TypeId} {c0 c1 c2 c3 c4 : Value} (h : Bk w g t #[c0,c1,c2,c3,c4]) :
  w.cell? ⟨g,0,none⟩ = some c0 /\ w.cell? ⟨g,1,none⟩ = some c1 /\ w.cell? ⟨g,2,none⟩ = some c2 /\ w.cell? ⟨g,3,none⟩ = some c3 /\ w.cell? ⟨g,4,none⟩ = some c4 :=
 ⟨by simpa using h.cell 0,by simpa using h.cell 1,by simpa using h.cell 2,by simpa using h.cell 3,by simpa using h.cell 4⟩
theorem aR : (Tryz.prog.info? 42).map (fun i => (i.zero,i.size,i.bytes)) = some (some (.agg #[.int .i64 0,.bool false,.int .i64 0,.string ByteArray.empty,.slice none 0 0]),5,64):=by kernel_rfl
def cY (r : Except Nat Tl) (w : World) (e : Ending) (w' : World) : Prop :=
 Below w.heap.size w w' /\ match r with
  | .ok t => ∃ cs,e = .returned (.agg cs) /\ TlAt w' (fun b => w.heap.size <= b) t cs
  | .error er => Throws er e
theorem and32 : ∀ b : Nat,b < 256 -> b &&& 32 = b / 32 % 2 * 32:=by decide +kernel
theorem u8_and32 (b : Nat) (h : b < 256) : bits BinOp.and IntKind.u8 (b : Int) 32 = ((b / 32 % 2 * 32 : Nat) : Int):=by
 have h1:=u8_and_nat b 32 h (by omega)
 have e : b &&& 32 = b / 32 % 2 * 32:=and32 b h
 rw [e] at h1
 exact h1
theorem dE {w W : World} (h : Below w.heap.size w W) (v0 v1 v2 v3 v4 : Value) :
  Below w.heap.size w (((((W.setCell ⟨w.heap.size,0,none⟩ v0).setCell ⟨w.heap.size,1,none⟩ v1).setCell ⟨w.heap.size,2,none⟩ v2).setCell ⟨w.heap.size,3,none⟩ v3).setCell ⟨w.heap.size,4,none⟩ v4) :=
 ((((h.setCell (Nat.le_refl _) _).setCell (Nat.le_refl _) _).setCell (Nat.le_refl _) _).setCell (Nat.le_refl _) _).setCell (Nat.le_refl _) _
theorem str_eq {a b : ByteArray} (h : a.data.toList = b.data.toList) : a = b:=by
 rw [dB h]
theorem tlAt_flat {w : World} {S : Nat -> Prop} (b0 : Nat) (h : b0 < 256) {x y : ByteArray} (hxy : x = y) (hx : x.size <= maxLen) :
  TlAt w S (.mk (b0 / 64 : Nat) false (b0 % 32 : Nat) y []) #[.int .i64 ((b0 : Int) / 64),.bool false,.int .i64 ((b0 : Int) % 32),.string x,.slice none 0 0]:=by
 subst hxy
 unfold TlAt
 exact ⟨none,0,rfl,⟨Nat.zero_le _,Nat.zero_le _⟩,WalkArith.wf_i64 (by omega),WalkArith.wf_i64 (by omega),hx,by unfold KsAt; trivial⟩
theorem value_no (s : ByteArray) (d k : Nat) (w : World) (hs : s.size <= 1000000) (h : (PB.head s.data.toList).2.2 ≠ 0 \/ PB.span s.data.toList ≠ s.size) :
  Calls Tryz.prog 67 #[.string s,.int .i64 d] w (cY (PB.val k s.data.toList) w):=by
 have hl:=PB.head_le s.data.toList
 have hv : PB.val k s.data.toList = .error 4:=by
  rw [PB.val_eq]
  unfold PB.valOf
  rw [ax,if_pos h]
 rw [hv]
 unfold PB.span at h
 have HH:=aa fun W : World => dL s W (by unfold maxLen; omega)
 generalize PB.head s.data.toList = p at hl HH h
 obtain ⟨a,n,er⟩:=p
 dsimp only at hl HH h
 obtain ⟨hl1,hl2⟩:=hl
 clear hv
 by_cases he : er = 0
 ·subst he
  have h2 : ((n : Int) != (s.size : Int) - a) = true:=by simp; omega
  clear h
  go_enter Tryz.func67,Tryz.ntmps67
  go_wp2_with (go_at_call 92; refine (HH.out _).mono ?_; rintro e w' ⟨rfl,nq,rfl⟩)
  exact ⟨rfl,below_drewN ((Below.refl _ _).alloc (Nat.le_refl _) _) _,rfl⟩
 ·have h1 : ((er : Int) != 0) = true:=by simp; omega
  clear he h
  go_enter Tryz.func67,Tryz.ntmps67
  go_wp2_with (go_at_call 92; refine (HH.out _).mono ?_; rintro e w' ⟨rfl,nq,rfl⟩)
  exact ⟨rfl,below_drewN ((Below.refl _ _).alloc (Nat.le_refl _) _) _,rfl⟩
theorem value_prim (s : ByteArray) (d k : Nat) (w : World) (hs : s.size <= 1000000) (h : ¬ ((PB.head s.data.toList).2.2 ≠ 0 \/ PB.span s.data.toList ≠ s.size)) (hc : PB.byt s.data.toList 0 / 32 % 2 = 0) :
  Calls Tryz.prog 67 #[.string s,.int .i64 d] w (cY (PB.val k s.data.toList) w):=by
 have hl:=PB.head_le s.data.toList
 have hv : PB.val k s.data.toList = .ok (.mk (PB.byt s.data.toList 0 / 64 : Nat) false (PB.byt s.data.toList 0 % 32 : Nat) ⟨(s.data.toList.drop (PB.head s.data.toList).1).toArray⟩ []):=by
  rw [PB.val_eq]
  unfold PB.valOf
  rw [ax,if_neg h,if_pos hc]
 rw [hv]
 have hft:=PB.head_fits s.data.toList (by omega)
 rw [ax] at hft
 unfold PB.span at h
 have HH:=aa fun W : World => dL s W (by unfold maxLen; omega)
 have h0 : 0 < s.size:=by omega
 have hg:=get_bt s 0 h0
 have tb:=dp s 0
 have hb0:=PB.byt_lt s.data.toList 0
 rw [tb] at hg
 generalize PB.byt s.data.toList 0 = b0 at *
 generalize PB.head s.data.toList = p at hl HH h hft
 obtain ⟨a,n,er⟩:=p
 dsimp only at hl HH h hft
 obtain ⟨hl1,hl2⟩:=hl
 obtain rfl : er = 0:=by omega
 have h2 : ((n : Int) != (s.size : Int) - a) = false:=by simp; omega
 clear hv tb h
 have e1:=u8_and31 (b0 : Int) (by omega) (by omega)
 have e2 : (bits BinOp.and IntKind.u8 (b0 : Int) 32 != 0) = false:=by rw [u8_and32 b0 hb0]; simp [hc]
 clear hc
 go_enter Tryz.func67,Tryz.ntmps67
 go_wp2_with (go_at_call 92; refine (HH.out _).mono ?_; rintro e w' ⟨rfl,nq,rfl⟩)
 go_region
 go_wp2_with fail
 refine bodyPost_ret (v:=.agg #[.int .i64 ((b0 : Int) / 64),.bool false,.int .i64 ((b0 : Int) % 32),.string (s.extract a s.size),.slice none 0 0]) (by simp [results,Tryz.results67,go_sem]) rfl ⟨?_,_,rfl,?_⟩
 ·exact (dE (below_drewN ((Below.refl _ _).alloc (Nat.le_refl _) _) _) _ _ _ _ _).alloc (by simp) _
 ·exact tlAt_flat b0 hb0 (str_eq (by rw [bp,List.take_of_length_le (by rw [List.length_drop,ax]; omega)])) (by rw [ByteArray.size_extract]; unfold maxLen; omega)
def KRow (w : World) (B : Nat) (v : Value) (ks : List Tl) : Prop :=
 ∃ xs : List Value,w.ownsRow B 42 5 v ks.length xs /\ ∀ (i : Nat) (h : i < ks.length),∃ c0 c1 c2 c3 c4 : Value,xs[i * 5]? = some c0 /\ xs[i * 5 + 1]? = some c1 /\ xs[i * 5 + 2]? = some c2 /\ xs[i * 5 + 3]? = some c3 /\ xs[i * 5 + 4]? = some c4 ∧
  TlAt w (fun b => B <= b /\ v.ownBlock ≠ some b) ks[i] #[c0,c1,c2,c3,c4]
theorem KRow.nil (w : World) (B : Nat) : KRow w B (.slice none 0 0) []:=⟨[],World.ownsRow_nil _ _ _ _,fun i h => by simp at h⟩
theorem KRow.keep {w w' : World} {B : Nat} {v : Value} {ks : List Tl} (h : KRow w B v ks) (hs : w.heap.size <= w'.heap.size) (hk : ∀ b,B <= b -> b < w.heap.size -> w'.heap[b]? = w.heap[b]?) : KRow w' B v ks:=by
 obtain ⟨xs,h1,h2⟩:=h
 refine ⟨xs,?_,fun i hi => ?_⟩
 ·obtain ⟨a1,a2⟩:=h1
  refine ⟨a1,?_⟩
  rcases a2 with a2 | ⟨g,cap,cur,rfl,hb,hh,r⟩
  ·exact Or.inl a2
  ·exact Or.inr ⟨g,cap,cur,rfl,hb,(hk g hb (lt_of_block hh)).trans hh,r⟩
 ·obtain ⟨c0,c1,c2,c3,c4,q0,q1,q2,q3,q4,ht⟩:=h2 i hi
  exact ⟨c0,c1,c2,c3,c4,q0,q1,q2,q3,q4,TlAt.keep hs (fun b hb hlt => hk b hb.1 hlt) (fun _ h _ => h) _ _ ht⟩
theorem KRow.below {w w' : World} {B : Nat} {v : Value} {ks : List Tl} (h : KRow w B v ks) (hb : Below w.heap.size w w') : KRow w' B v ks:=h.keep hb.size (fun b _ hlt => hb.block b hlt)
theorem KRow.lt {w : World} {B : Nat} {v : Value} {ks : List Tl} (h : KRow w B v ks) : ∀ g,v.ownBlock = some g -> B <= g /\ g < w.heap.size:=by
 obtain ⟨xs,h1,_⟩:=h
 exact h1.lt
theorem KRow.push {w w1 w2 w3 : World} {B : Nat} {v v' : Value} {ks : List Tl} {t : Tl} {c0 c1 c2 c3 c4 : Value} {xs : List Value} (hB : B <= w.heap.size)
  (hown : w.ownsRow B 42 5 v ks.length xs)
  (hall : ∀ (i : Nat) (h : i < ks.length),∃ c0 c1 c2 c3 c4 : Value,xs[i * 5]? = some c0 /\ xs[i * 5 + 1]? = some c1 /\ xs[i * 5 + 2]? = some c2 /\ xs[i * 5 + 3]? = some c3 /\ xs[i * 5 + 4]? = some c4 /\ TlAt w (fun b => B <= b /\ v.ownBlock ≠ some b) ks[i] #[c0,c1,c2,c3,c4])
  (h1 : Below w.heap.size w w1) (ht : TlAt w1 (fun b => w.heap.size <= b) t #[c0,c1,c2,c3,c4]) (h2 : Below w1.heap.size w1 w2)
  (hown3 : w3.ownsRow B 42 5 v' (ks.length + 1) (xs ++ [c0,c1,c2,c3,c4])) (hgr : w2.grownBy w3 v.ownBlock) (hat : v'.ownBlock = v.ownBlock \/ v'.ownBlock = some w2.heap.size) :
  KRow w3 B v' (ks ++ [t]):=by
 have s1:=h1.size
 have s2:=h2.size
 have s3:=hgr.size
 have hvlt:=hown.lt
 have hl : xs.length = ks.length * 5:=hown.1
 have hne : ∀ b,b < w2.heap.size -> v.ownBlock ≠ some b -> v'.ownBlock ≠ some b:=by
  intro b hb hn e
  rcases hat with h | h
  ·exact hn (h ▸ e)
  ·rw [h] at e; injection e with e; omega
 refine ⟨xs ++ [c0,c1,c2,c3,c4],by rw [List.length_append]; exact hown3,fun i hi => ?_⟩
 rw [List.length_append,List.length_singleton] at hi
 by_cases hlt : i < ks.length
 ·obtain ⟨d0,d1,d2,d3,d4,q0,q1,q2,q3,q4,hti⟩:=hall i hlt
  have e : (ks ++ [t])[i]'(by simp; omega) = ks[i]:=List.getElem_append_left hlt
  rw [e]
  refine ⟨d0,d1,d2,d3,d4,?_,?_,?_,?_,?_,TlAt.keep (by omega) (fun b hb hbl => ?_) (fun b hb hbl => ⟨hb.1,hne b (by omega) hb.2⟩) _ _ hti⟩
  ·rw [List.getElem?_append_left (by omega)]; exact q0
  ·rw [List.getElem?_append_left (by omega)]; exact q1
  ·rw [List.getElem?_append_left (by omega)]; exact q2
  ·rw [List.getElem?_append_left (by omega)]; exact q3
  ·rw [List.getElem?_append_left (by omega)]; exact q4
  ·exact (hgr.block b (by omega) (fun e => hb.2 e.symm)).trans ((h2.block b (by omega)).trans (h1.block b hbl))
 ·obtain rfl : i = ks.length:=by omega
  have e : (ks ++ [t])[ks.length]'(by simp) = t:=by simp
  rw [e]
  have hg : ∀ j,j < 5 -> (xs ++ [c0,c1,c2,c3,c4])[ks.length * 5 + j]? = [c0,c1,c2,c3,c4][j]?:=by
   intro j hj
   rw [List.getElem?_append_right (by omega)]
   congr 1
   omega
  refine ⟨c0,c1,c2,c3,c4,hg 0 (by omega),hg 1 (by omega),hg 2 (by omega),hg 3 (by omega),hg 4 (by omega),TlAt.keep (by omega) (fun b hb hbl => ?_) (fun b hb hbl => ⟨by omega,hne b (by omega) (fun e => by have:=(hvlt b e).2; omega)⟩) _ _ ht⟩
  exact (hgr.block b (by omega) (fun e => by have:=(hvlt b e.symm).2; omega)).trans (h2.block b hbl)
theorem KRow.kids {w : World} {B : Nat} {v : Value} {ks : List Tl} (h : KRow w B v ks) : ∃ (A : Option Addr) (cap : Nat),v = .slice A ks.length cap /\ (ks.length <= cap /\ cap <= maxLen) /\ KsAt w (fun b => B <= b) ks A 0:=by
 obtain ⟨xs,h1,h2⟩:=h
 obtain ⟨hl,hr⟩:=h1
 rcases hr with ⟨rfl,hn⟩ | ⟨g,cap,cur,rfl,hb,hh,hc,hm,hcs,htk⟩
 ·obtain rfl : ks = []:=List.eq_nil_of_length_eq_zero hn
  exact ⟨none,0,rfl,⟨Nat.zero_le _,Nat.zero_le _⟩,by unfold KsAt; trivial⟩
 ·refine ⟨some ⟨g,0,none⟩,cap,rfl,⟨by omega,by omega⟩,?_⟩
  have hcell : ∀ j u,xs[j]? = some u -> w.cell? ⟨g,j,none⟩ = some u:=by
   intro j u hu
   rw [cell_of_row w g j cur _ (0,0) hh]
   have hj : j < xs.length:=(List.getElem?_eq_some_iff.1 hu).1
   rw [<- htk,List.getElem?_take_of_lt (by omega)] at hu
   rw [<- Array.getElem?_toList]
   exact hu
  have hglt:=lt_of_block hh
  have key : ∀ (n i : Nat),i + n = ks.length -> KsAt w (fun b => B <= b) (ks.drop i) (some ⟨g,0,none⟩) i:=by
   intro n
   induction n with
   | zero => intro i hi; rw [List.drop_eq_nil_of_le (by omega)]; unfold KsAt; trivial
   | succ n ih =>
    intro i hi
    rw [List.drop_eq_getElem_cons (by omega)]
    unfold KsAt
    obtain ⟨c0,c1,c2,c3,c4,q0,q1,q2,q3,q4,ht⟩:=h2 i (by omega)
    refine ⟨⟨g,0,c0,c1,c2,c3,c4,rfl,⟨hb,hglt⟩,?_,?_,?_,?_,?_,TlAt.keep (Nat.le_refl _) (fun _ _ _ => rfl) (fun _ h _ => h.1) _ _ ht⟩,ih (i + 1) (by omega)⟩
    ·rw [Nat.zero_add]; exact hcell _ _ q0
    ·rw [Nat.zero_add]; exact hcell _ _ q1
    ·rw [Nat.zero_add]; exact hcell _ _ q2
    ·rw [Nat.zero_add]; exact hcell _ _ q3
    ·rw [Nat.zero_add]; exact hcell _ _ q4
  have:=key ks.length 0 (by omega)
  rwa [List.drop_zero] at this
namespace PB
end PB
theorem left_split (left : ByteArray) (q : Nat) (hq : q <= left.size) : left.data.toList = (left.extract 0 q).data.toList ++ (left.extract q left.size).data.toList /\ (left.extract 0 q).size = q /\ (left.extract q left.size).size = left.size - q:=by
 have e2 : (left.extract q left.size).data.toList = left.data.toList.drop q:=by
  rw [bp,List.take_of_length_le (by rw [List.length_drop,ax]; omega)]
 have e1 : (left.extract 0 q).data.toList = left.data.toList.take q:=by rw [bp]; simp
 refine ⟨by rw [e1,e2,List.take_append_drop],?_,?_⟩
 ·rw [<- ax,e1,List.length_take,ax]; omega
 ·rw [<- ax,e2,List.length_drop,ax]
end Go.Proofs.YtbiglfpikfjbpaaGreatDoor
