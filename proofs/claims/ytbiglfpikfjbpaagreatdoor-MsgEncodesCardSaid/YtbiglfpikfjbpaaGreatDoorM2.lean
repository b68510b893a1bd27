import Derived.Test.YtbiglfpikfjbpaaGreatDoorM1
import Derived.RegionDies
import Derived.Deep.RegionLaw
import Derived.Defers
import Derived.Recover
import Derived.Laws.Pointers
import Derived.Test.YtbiglfpikfjbpaaGreatDoorChecked
import Derived.Test.YtbiglfpikfjbpaaGreatDoorM0
namespace Go.Proofs.YtbiglfpikfjbpaaGreatDoor
open Go.RowKit
open Go.PlainAid
set_option maxRecDepth 100000
set_option linter.unusedVariables false
set_option linter.unusedSimpArgs false
set_option maxHeartbeats 40000000
def ValAt (k : Nat) (w : World) (L : Nat) (l : List UInt8) (b0 : Nat) (rest : ByteArray) (ks : List Tl) (v : Value) (wr : World) : Prop :=
 PB.kidsOf (PB.sub k) L l = PB.pre ks (PB.kidsOf (PB.sub k) L rest.data.toList) /\ rest.size <= L /\ ks.length + rest.size <= L ∧
  Bk wr w.heap.size 42 (flat 0 0 ⟨#[]⟩) /\ Bk wr (w.heap.size + 1) 42 #[.int .i64 ((b0 : Int) / 64),.bool true,.int .i64 ((b0 : Int) % 32),.string ⟨#[]⟩,v] /\ KRow wr (w.heap.size + 2) v ks /\ Below w.heap.size w wr
theorem valAt_start (k : Nat) (w : World) (b0 nq : Nat) (l : List UInt8) (L : Nat) (rest : ByteArray) (hr : rest.data.toList = l) (hL : rest.size <= L) :
  ValAt k w L l b0 rest [] (.slice none 0 0) (((w.alloc (.cells (flat 0 0 ⟨#[]⟩) 42)).drewN nq).alloc (.cells #[.int .i64 ((b0 : Int) / 64),.bool true,.int .i64 ((b0 : Int) % 32),.string ⟨#[]⟩,.slice none 0 0] 42)):=by
 refine ⟨by rw [PB.pre_nil,hr],hL,by simpa using hL,((Bk.new w _ _).drewN nq).alloc _,?_,KRow.nil _ _,(below_drewN ((Below.refl _ _).alloc (Nat.le_refl _) _) _).alloc (by simp) _⟩
 have h:=Bk.new ((w.alloc (.cells (flat 0 0 ⟨#[]⟩) 42)).drewN nq) 42 #[.int .i64 ((b0 : Int) / 64),.bool true,.int .i64 ((b0 : Int) % 32),.string ⟨#[]⟩,.slice none 0 0]
 simpa using h
theorem ep {r : Except Nat Tl} {w w' : World} {er : Nat} (h : r = .error er) (hb : Below w.heap.size w w') : cY r w (.panicked [{ v:=.iface 106 (.int .i64 er),recovered:=false }]) w':=by
 subst h
 exact ⟨hb,rfl⟩
theorem valPost_ok {r : Except Nat Tl} {w w' : World} {t : Tl} {cs : Array Value} (h : r = .ok t) (hb : Below w.heap.size w w') (ht : TlAt w' (fun b => w.heap.size <= b) t cs) : cY r w (.returned (.agg cs)) w':=by
 subst h
 exact ⟨hb,cs,rfl,ht⟩
theorem valErr_below {w wr W w4 : World} (h : Below w.heap.size w wr) (hb : Below W.heap.size W w4) (e1 : W.heap = wr.heap) (e2 : W.os = wr.os) (e3 : W.tape = wr.tape) (e4 : W.output = wr.output) : Below w.heap.size w w4:=by
 have hs:=h.size
 refine ⟨hb.os.trans (e2.trans h.os),hb.tape.trans (e3.trans h.tape),hb.output.trans (e4.trans h.output),?_,fun i hi => ?_⟩
 ·have:=hb.size; rw [e1] at this; omega
 ·have h1:=hb.block i (by rw [e1]; omega)
  rw [e1] at h1
  exact h1.trans (h.block i hi)
theorem fI {k L b0 er : Nat} {l : List UInt8} {rest : ByteArray} {ks : List Tl} {r : Except Nat Tl} (h1 : PB.kidsOf (PB.sub k) L l = PB.pre ks (PB.kidsOf (PB.sub k) L rest.data.toList))
  (hv : r = match PB.kidsOf (PB.sub k) L l with | .error e => .error e | .ok ts => .ok (.mk (b0 / 64 : Nat) true (b0 % 32 : Nat) ByteArray.empty ts)) (he : PB.kidsOf (PB.sub k) L rest.data.toList = .error er) : r = .error er:=by
 rw [hv,h1,he]
 rfl
theorem ak {w : World} {S : Nat -> Prop} {t : Tl} {cs : Array Value} (h : TlAt w S t cs) : ∃ (x0 : Int) (x1 : Bool) (x2 : Int) (x3 : ByteArray) (A : Option Addr) (n c : Nat),cs = #[.int .i64 x0,.bool x1,.int .i64 x2,.string x3,.slice A n c]:=by
 obtain ⟨a,b,c,d,ks⟩:=t
 unfold TlAt at h
 obtain ⟨A,cap,rfl,_⟩:=h
 exact ⟨_,_,_,_,_,_,_,rfl⟩
theorem own_below {w w' : World} {B : Nat} {e : TypeId} {size n : Nat} {v : Value} {xs : List Value} (h : w.ownsRow B e size v n xs) (hb : Below w.heap.size w w') : w'.ownsRow B e size v n xs :=
 (Off.of_below hb []).own h (by simp)
theorem valAt_next {k L b0 sp gg cap5 : Nat} {l : List UInt8} {rest : ByteArray} {ks : List Tl} {v : Value} {w wr W w4 w5 : World} {t : Tl} {c0 c1 c2 c3 c4 : Value} {xs : List Value}
  (h1 : PB.kidsOf (PB.sub (k + 1)) L l = PB.pre ks (PB.kidsOf (PB.sub (k + 1)) L rest.data.toList))
  (hk : PB.kidsOf (some (PB.val k)) L rest.data.toList = PB.pre [t] (PB.kidsOf (some (PB.val k)) L (rest.data.toList.drop (PB.span rest.data.toList)))) (hsn : PB.span rest.data.toList = sp) (hsp : sp <= rest.size) (hpos : 2 <= sp)
  (g2 : rest.size <= L) (g3 : ks.length + rest.size <= L) (g4 : Bk wr w.heap.size 42 (flat 0 0 ⟨#[]⟩)) (g5 : Bk wr (w.heap.size + 1) 42 #[.int .i64 ((b0 : Int) / 64),.bool true,.int .i64 ((b0 : Int) % 32),.string ⟨#[]⟩,v])
  (g7 : Below w.heap.size w wr) (hown : wr.ownsRow (w.heap.size + 2) 42 5 v ks.length xs)
  (hall : ∀ (i : Nat) (h : i < ks.length),∃ c0 c1 c2 c3 c4 : Value,xs[i * 5]? = some c0 /\ xs[i * 5 + 1]? = some c1 /\ xs[i * 5 + 2]? = some c2 /\ xs[i * 5 + 3]? = some c3 /\ xs[i * 5 + 4]? = some c4 /\ TlAt wr (fun b => w.heap.size + 2 <= b /\ v.ownBlock ≠ some b) ks[i] #[c0,c1,c2,c3,c4])
  (hb4 : Below W.heap.size W w4) (e1 : W.heap = wr.heap) (e2 : W.os = wr.os) (e3 : W.tape = wr.tape) (e4 : W.output = wr.output) (ht : TlAt w4 (fun b => W.heap.size <= b) t #[c0,c1,c2,c3,c4])
  (hown5 : w5.ownsRow (w.heap.size + 2) 42 5 (.slice (some ⟨gg,0,none⟩) (ks.length + 1) cap5) (ks.length + 1) (xs ++ [c0,c1,c2,c3,c4])) (hgr : (w4.alloc (.cells #[c0,c1,c2,c3,c4] 42)).grownBy w5 v.ownBlock) (hat : v.ownBlock = some gg \/ gg = w4.heap.size + 1) :
  ValAt (k + 1) w L l b0 (rest.extract sp rest.size) (ks ++ [t]) (.slice (some ⟨gg,0,none⟩) (ks.length + 1) cap5) (w5.setCell ⟨w.heap.size + 1,4,none⟩ (.slice (some ⟨gg,0,none⟩) (ks.length + 1) cap5)):=by
 have hb : Below wr.heap.size wr w4:=by
  refine ⟨hb4.os.trans e2,hb4.tape.trans e3,hb4.output.trans e4,?_,fun i hi => ?_⟩
  ·have:=hb4.size; rw [e1] at this; exact this
  ·have:=hb4.block i (by rw [e1]; exact hi); rw [e1] at this; exact this
 rw [e1] at ht
 have s1:=hb.size
 have s3:=hgr.size
 have s0:=g7.size
 have l4:=g4.lt
 have l5:=g5.lt
 have hwa : (w4.alloc (.cells #[c0,c1,c2,c3,c4] 42)).heap.size = w4.heap.size + 1:=by simp
 rw [hwa] at s3
 have hba : Below w4.heap.size w4 (w4.alloc (.cells #[c0,c1,c2,c3,c4] 42)):=(Below.refl _ _).alloc (Nat.le_refl _) _
 have hvlt:=hown.lt
 have hkeep : ∀ b,b < wr.heap.size -> v.ownBlock ≠ some b -> w5.heap[b]? = wr.heap[b]?:=fun b hb' hn =>
  (hgr.block b (by rw [hwa]; omega) (fun e => hn e.symm)).trans ((hba.block b (by omega)).trans (hb.block b hb'))
 have n4 : v.ownBlock ≠ some w.heap.size:=fun e => by have:=(hvlt _ e).1; omega
 have n5 : v.ownBlock ≠ some (w.heap.size + 1):=fun e => by have:=(hvlt _ e).1; omega
 have hk4 : Bk w5 w.heap.size 42 (flat 0 0 ⟨#[]⟩):=(hkeep _ l4 n4).trans g4
 have hk5 : Bk w5 (w.heap.size + 1) 42 #[.int .i64 ((b0 : Int) / 64),.bool true,.int .i64 ((b0 : Int) % 32),.string ⟨#[]⟩,v]:=(hkeep _ l5 n5).trans g5
 have hrow:=KRow.push (by omega) hown hall hb ht hba hown5 hgr (hat.elim (fun h => Or.inl h.symm) (fun h => Or.inr (by rw [hwa,h]; rfl)))
 obtain ⟨hs1,hs2,hs3⟩:=left_split rest sp hsp
 have hdrop : (rest.extract sp rest.size).data.toList = rest.data.toList.drop sp:=by
  rw [bp,List.take_of_length_le (by rw [List.length_drop,ax]; omega)]
 have hsz5 : w.heap.size <= w5.heap.size:=by omega
 refine ⟨?_,by omega,?_,hk4.far (by simp) _,?_,?_,?_⟩
 ·have hsub : PB.sub (k + 1) = some (PB.val k):=rfl
  rw [h1,hsub,hk,PB.pre_pre,hdrop,hsn]
 ·rw [List.length_append,List.length_singleton]
  omega
 ·have:=hk5.put 4 (.slice (some ⟨gg,0,none⟩) (ks.length + 1) cap5)
  simpa using this
 ·refine hrow.keep (by simp [World.setCell]) (fun b hb' hlt => ?_)
  exact Below.heap_setCell _ _ _ _ (by simp; omega)
 ·refine ⟨?_,?_,?_,?_,fun i hi => ?_⟩
  ·exact hgr.os.trans (hba.os.trans (hb.os.trans g7.os))
  ·exact hgr.tape.trans (hba.tape.trans (hb.tape.trans g7.tape))
  ·exact hgr.output.trans (hba.output.trans (hb.output.trans g7.output))
  ·simpa [World.setCell] using hsz5
  ·rw [Below.heap_setCell _ _ _ _ (by simp; omega),hkeep i (by omega) (fun e => by have:=(hvlt _ e).1; omega)]
   exact g7.block i hi
theorem valAt_ok {k L b0 : Nat} {l : List UInt8} {ks : List Tl} {r : Except Nat Tl} (h1 : PB.kidsOf (PB.sub k) L l = PB.pre ks (PB.kidsOf (PB.sub k) L (ByteArray.empty).data.toList))
  (hv : r = match PB.kidsOf (PB.sub k) L l with | .error e => .error e | .ok ts => .ok (.mk (b0 / 64 : Nat) true (b0 % 32 : Nat) ByteArray.empty ts)) : r = .ok (.mk (b0 / 64 : Nat) true (b0 % 32 : Nat) ByteArray.empty ks):=by
 have e : (ByteArray.empty).data.toList = []:=rfl
 rw [hv,h1,e,PB.kidsOf_nil]
 simp [PB.pre]
theorem tlAt_cons {w : World} {S : Nat -> Prop} (b0 : Nat) (h : b0 < 256) {ks : List Tl} {A : Option Addr} {cap : Nat} (hl : ks.length <= cap /\ cap <= maxLen) (hk : KsAt w S ks A 0) :
  TlAt w S (.mk (b0 / 64 : Nat) true (b0 % 32 : Nat) ByteArray.empty ks) #[.int .i64 ((b0 : Int) / 64),.bool true,.int .i64 ((b0 : Int) % 32),.string ⟨#[]⟩,.slice A ks.length cap]:=by
 unfold TlAt
 exact ⟨A,cap,rfl,hl,WalkArith.wf_i64 (by omega),WalkArith.wf_i64 (by omega),Nat.zero_le _,hk⟩
theorem kids_cells {w W : World} {ks : List Tl} {A : Option Addr} {v0 v1 v2 v3 v4 : Value} (h : KsAt W (fun b => w.heap.size + 2 <= b) ks A 0) :
  KsAt (((((W.setCell ⟨w.heap.size,0,none⟩ v0).setCell ⟨w.heap.size,1,none⟩ v1).setCell ⟨w.heap.size,2,none⟩ v2).setCell ⟨w.heap.size,3,none⟩ v3).setCell ⟨w.heap.size,4,none⟩ v4) (fun b => w.heap.size <= b) ks A 0:=by
 refine KsAt.keep (by simp [World.setCell]) (fun b hb _ => ?_) (fun b hb _ => by omega) ks A 0 h
 rw [Below.heap_setCell _ _ _ _ (by simp; omega),Below.heap_setCell _ _ _ _ (by simp; omega),Below.heap_setCell _ _ _ _ (by simp; omega),Below.heap_setCell _ _ _ _ (by simp; omega),Below.heap_setCell _ _ _ _ (by simp; omega)]
theorem aK {w4 : World} {b o : Nat} {v : Value} (h1 : w4.cell? ⟨b,o,none⟩ = some v) (h2 : w4.frozen? ⟨b,o,none⟩ = false) (hlt : b < w4.heap.size) : ∀ x : Obj,(w4.alloc x).cell? ⟨b,o,none⟩ = some v /\ (w4.alloc x).frozen? ⟨b,o,none⟩ = false :=
 fun x => ⟨(World.cell?_of_block (a:=⟨b,o,none⟩) (Below.heap_alloc w4 x b hlt)).trans h1,(World.frozen?_of_block (a:=⟨b,o,none⟩) (Below.heap_alloc w4 x b hlt)).trans h2⟩
theorem bC {w w5 : World} {b o : Nat} {v : Value} {row : Option Nat} (h : w.cell? ⟨b,o,none⟩ = some v /\ w.frozen? ⟨b,o,none⟩ = false) (hg : w.grownBy w5 row) (hne : row ≠ some b) (hlt : b < w.heap.size) : w5.cell? ⟨b,o,none⟩ = some v /\ w5.frozen? ⟨b,o,none⟩ = false :=
 ⟨(World.cell?_of_block (a:=⟨b,o,none⟩) (hg.block b hlt (fun e => hne e.symm))).trans h.1,(World.frozen?_of_block (a:=⟨b,o,none⟩) (hg.block b hlt (fun e => hne e.symm))).trans h.2⟩
theorem value_cons (s : ByteArray) (d k : Nat) (w : World) (hd : d + k = 16) (hs : s.size <= 8192) (h : ¬ ((PB.head s.data.toList).2.2 ≠ 0 \/ PB.span s.data.toList ≠ s.size)) (hc : ¬ PB.byt s.data.toList 0 / 32 % 2 = 0)
  (ih : ∀ k',k = k' + 1 -> ∀ (s : ByteArray) (d : Nat) (w : World),d + k' = 16 -> s.size <= 8192 -> Calls Tryz.prog 67 #[.string s,.int .i64 d] w (cY (PB.val k' s.data.toList) w)) :
  Calls Tryz.prog 67 #[.string s,.int .i64 d] w (cY (PB.val k s.data.toList) w):=by
 obtain ⟨i0,hi,hz0,hz1,hz2⟩:=info_parts aR
 have hl:=PB.head_le s.data.toList
 have hv : PB.val k s.data.toList = match PB.kidsOf (PB.sub k) s.size (s.data.toList.drop (PB.head s.data.toList).1) with
   | .error e => .error e
   | .ok ts => .ok (.mk (PB.byt s.data.toList 0 / 64 : Nat) true (PB.byt s.data.toList 0 % 32 : Nat) ByteArray.empty ts):=by
  rw [PB.val_eq]
  unfold PB.valOf
  rw [ax,if_neg h,if_neg hc]
  cases PB.kidsOf (PB.sub k) s.size (s.data.toList.drop (PB.head s.data.toList).1) <;> rfl
 have hft:=PB.head_fits s.data.toList (by omega)
 rw [ax] at hft
 unfold PB.span at h
 have HH:=aa fun W : World => dL s W (by unfold maxLen; omega)
 have h0 : 0 < s.size:=by omega
 have hg:=get_bt s 0 h0
 have tb:=dp s 0
 have hb0:=PB.byt_lt s.data.toList 0
 rw [tb] at hg
 generalize PB.byt s.data.toList 0 = b0 at *
 generalize PB.head s.data.toList = p at hl HH h hft hv
 obtain ⟨a,n,er⟩:=p
 dsimp only at hl HH h hft hv
 obtain ⟨hl1,hl2⟩:=hl
 obtain rfl : er = 0:=by omega
 have h2 : ((n : Int) != (s.size : Int) - a) = false:=by simp; omega
 have e1:=u8_and31 (b0 : Int) (by omega) (by omega)
 have e2 : (bits BinOp.and IntKind.u8 (b0 : Int) 32 != 0) = true:=by
  rw [u8_and32 b0 hb0,show b0 / 32 % 2 = 1 by omega]
  decide
 have hrs : (s.extract a s.size).data.toList = s.data.toList.drop a:=by rw [bp,List.take_of_length_le (by rw [List.length_drop,ax]; omega)]
 have hrz : (s.extract a s.size).size <= s.size:=by rw [ByteArray.size_extract]; omega
 have HRS:=aa hrs
 have HV:=aa hv
 have IH:=aa ih
 clear hv tb h hc hrs ih
 go_enter Tryz.func67,Tryz.ntmps67
 go_wp2_with (go_at_call 92; refine (HH.out _).mono ?_; rintro e w' ⟨rfl,nq,rfl⟩)
 go_region
 go_wp2_with fail
 have hstart:=valAt_start k w b0 (nq + 1) _ s.size _ HRS.out hrz
 go_loopw [9] (fun x wr => ∃ (rest : ByteArray) (ks : List Tl) (v : Value),x = .string rest /\ ValAt k w s.size (s.data.toList.drop a) b0 rest ks v wr) (fun x _ => strLen x)
 case atStart => exact ⟨_,[],_,rfl,hstart⟩
 case round =>
  clear hstart
  obtain ⟨rest,ks,v,rfl,hat⟩:=hrel
  obtain ⟨g1,g2,g3,g4,g5,g6,g7⟩:=hat
  have G1:=aa g1
  clear g1
  have hws:=g7.size
  obtain ⟨z0,z1,z2,z3,z4⟩:=g4.five
  obtain ⟨y0,y1,y2,y3,y4⟩:=g5.five
  have fz0:=g4.frozen 0
  have fz1:=g4.frozen 1
  have fz2:=g4.frozen 2
  have fz3:=g4.frozen 3
  have fz4:=g4.frozen 4
  have fy4:=g5.frozen 4
  by_cases hr0 : rest.size = 0
  ·obtain rfl : rest = ByteArray.empty:=by simpa [ByteArray.size_eq_zero_iff] using hr0
   obtain ⟨A,cap,rfl,hkl,hkids⟩:=g6.kids
   have HVO:=aa (valAt_ok G1.out HV.out)
   have HKD:=aa hkids
   clear hkids g6
   go_wp2_with fail
   refine bodyPost_ret (v:=.agg #[.int .i64 ((b0 : Int) / 64),.bool true,.int .i64 ((b0 : Int) % 32),.string ⟨#[]⟩,.slice A ks.length cap]) ?_ rfl (valPost_ok HVO.out ?_ ?_)
   ·simp [results,Tryz.results67,go_sem,z0,z1,z2,z3,z4]
   ·exact dE g7 _ _ _ _ _
   ·exact tlAt_cons b0 hb0 hkl (kids_cells HKD.out)
  ·have hne:=dr (s:=rest) (by omega)
   have hpos : 0 < rest.size:=by omega
   cases k with
   | zero =>
    have t16 : decide ((16 : Int) <= d) = true:=by simp; omega
    have HVE:=aa (fI G1.out HV.out (PB.kidsOf_deep s.size rest.data.toList (by rw [ax]; omega) (by rw [ax]; omega)))
    go_wp2_with fail
    exact ⟨rfl,ep HVE.out g7⟩
   | succ k =>
    have t16 : decide ((16 : Int) <= d) = false:=by simp; omega
    by_cases hb : (PB.head rest.data.toList).2.2 ≠ 0 \/ rest.size < PB.span rest.data.toList
    ·have HW:=aa fun W : World => whole_no rest W (by omega) hb
     have HVE:=aa (fI G1.out HV.out (PB.kidsOf_form (PB.val k) s.size rest.data.toList (by rw [ax]; omega) (by rw [ax]; omega) (by rw [ax]; exact hb)))
     go_wp2_with (go_at_call 93; refine (HW.out _).mono ?_; rintro e w3 ⟨hthr,n3,rfl⟩; unfold Throws at hthr; subst hthr)
     exact ⟨rfl,ep HVE.out (below_drewN g7 _)⟩
    ·have HW:=aa fun W : World => whole_yes rest W (by omega) hb
     have hsp : PB.span rest.data.toList <= rest.size:=by omega
     have hsp0 : 2 <= PB.span rest.data.toList:=PB.span_pos _ (by omega)
     generalize hsn : PB.span rest.data.toList = sp at HW hsp hsp0
     have HSN:=aa hsn
     clear hsn
     have hpz : (rest.extract 0 sp).size <= 8192:=by rw [ByteArray.size_extract]; omega
     have HC:=aa fun W : World => IH.out k rfl (rest.extract 0 sp) (d + 1) W (by omega) hpz
     rw [Int.natCast_add] at HC
     cases hval : PB.val k (rest.extract 0 sp).data.toList with
     | error er =>
      have HC2:=aa fun W : World => (show Calls Tryz.prog 67 #[.string (rest.extract 0 sp),.int .i64 ((d : Int) + 1)] W (cY (.error er) W) by rw [<- hval]; exact HC.out W)
      have HVE:=aa (fI G1.out HV.out (PB.kidsOf_err (PB.val k) s.size rest.data.toList er (by rw [ax]; omega) (by rw [ax]; omega) (by rw [ax,HSN.out]; omega) (by rw [HSN.out,<- hval,bp]; simp)))
      clear hval HC
      go_upto_region 13 with (go_at_call 93; refine (HW.out _).mono ?_; rintro e w3 ⟨rfl,n3,rfl⟩)
      have hwrap : IntKind.i64.wrap ((d : Int) + 1) = (d : Int) + 1:=IntWalk.i64_in _ (by omega)
      go_region_dies
      all_goals
       refine (HC2.out _).mono ?_
       rintro e w4 ⟨hb4,hthr⟩
       unfold Throws at hthr
       subst hthr
       exact ⟨rfl,ep HVE.out (valErr_below g7 hb4 rfl rfl rfl rfl)⟩
     | ok t =>
      have HC2:=aa fun W : World => (show Calls Tryz.prog 67 #[.string (rest.extract 0 sp),.int .i64 ((d : Int) + 1)] W (cY (.ok t) W) by rw [<- hval]; exact HC.out W)
      have HKN:=aa (PB.kidsOf_next (PB.val k) s.size rest.data.toList t (by rw [ax]; omega) (by rw [ax]; omega) (by rw [ax,HSN.out]; omega) (by rw [HSN.out,<- hval,bp]; simp))
      obtain ⟨xs,hown,hall⟩:=g6
      have HALL:=aa hall
      have hlt1:=g5.lt
      have hvne : v.ownBlock ≠ some (w.heap.size + 1):=fun e => by have:=(hown.lt _ e).1; omega
      clear hval HC hall
      go_upto_region 13 with (go_at_call 93; refine (HW.out _).mono ?_; rintro e w3 ⟨rfl,n3,rfl⟩)
      have hwrap : IntKind.i64.wrap ((d : Int) + 1) = (d : Int) + 1:=IntWalk.i64_in _ (by omega)
      have hdw : ∀ m : Nat,(wr.drewN m).heap.size = wr.heap.size:=fun _ => rfl
      go_region_law ((first
        | (refine step_append_lies _ (by rfl) _ _ _ (by rfl) (w.heap.size + 2) 42 i0 _ 5 64 Tryz.underlying40 hi hz0 hz1 hz2 rfl (by omega) v ks.length xs (by rfl) (hown4.alloc _) ⟨w4.heap.size,0,none⟩ 1 1 [.int .i64 x0,.bool x1,.int .i64 x2,.string x3,.slice xA xn xc] (by rfl) (by rfl) (World.news_of_block (cs:=#[.int .i64 x0,.bool x1,.int .i64 x2,.string x3,.slice xA xn xc]) (t:=42) (fr:=(0,0)) (heap_alloc_new w4 _)) (by simp [Value.oneCell']) (by omega) (by unfold maxLen; omega) (by omega) (by simp; omega) (w4.heap.size + 1) (by simp) ?_; intro gg cap5 w5 hown5 hgrow5 hat5 hlt5; have hkg:=bC (hka _) hgrow5 hvne (show w.heap.size + 1 < (w4.alloc _).heap.size by simp; omega); have hkg1:=hkg.1; have hkg2:=hkg.2)
        | (go_simp; go_at_call 67; refine (HC2.out _).mono ?_; rintro e w4 ⟨hb4,cs,rfl,ht⟩; obtain ⟨x0,x1,x2,x3,xA,xn,xc,rfl⟩:=ak ht; have hk1:=(hb4.cell (p:=⟨w.heap.size + 1,4,none⟩) hlt1).trans y4; have hk2:=(hb4.frozen (p:=⟨w.heap.size + 1,4,none⟩) hlt1).trans fy4; have hown4:=own_below (w:=wr.drewN (n3 + 1)) hown hb4; have hsz4:=hb4.size; rw [hdw] at hsz4; have hka:=aK hk1 hk2 (show w.heap.size + 1 < w4.heap.size by omega); have hka1:=fun o => (hka o).1; have hka2:=fun o => (hka o).2)
        | fail))
      all_goals
       clear hwrap
       go_wp2_with fail
       have hnx:=valAt_next (sp:=sp) G1.out HKN.out HSN.out hsp hsp0 g2 g3 g4 g5 g7 hown HALL.out hb4 rfl rfl rfl rfl ht hown5 hgrow5 hat5
       have hms:=(left_split rest sp hsp).2.2
       go_roundw
       case rel => exact ⟨_,_,_,rfl,hnx⟩
       case measure =>
        simp only [strLen]
        omega
theorem value_any (k : Nat) : ∀ (s : ByteArray) (d : Nat) (w : World),d + k = 16 -> s.size <= 8192 -> Calls Tryz.prog 67 #[.string s,.int .i64 d] w (cY (PB.val k s.data.toList) w):=by
 induction k with
 | zero =>
  intro s d w hd hs
  by_cases h : (PB.head s.data.toList).2.2 ≠ 0 \/ PB.span s.data.toList ≠ s.size
  ·exact value_no s d 0 w (by omega) h
  by_cases hc : PB.byt s.data.toList 0 / 32 % 2 = 0
  ·exact value_prim s d 0 w (by omega) h hc
  ·exact value_cons s d 0 w hd hs h hc (fun k' e => by omega)
 | succ k ih =>
  intro s d w hd hs
  by_cases h : (PB.head s.data.toList).2.2 ≠ 0 \/ PB.span s.data.toList ≠ s.size
  ·exact value_no s d (k + 1) w (by omega) h
  by_cases hc : PB.byt s.data.toList 0 / 32 % 2 = 0
  ·exact value_prim s d (k + 1) w (by omega) h hc
  ·exact value_cons s d (k + 1) w hd hs h hc (fun k' e => by cases e; exact ih)
def Three (w : World) (bt : Nat) (cs : Array Value) (n er : Int) : Prop :=
 Bk w bt 42 cs /\ Bk w (bt + 1) 3 #[.int .i64 n] /\ Bk w (bt + 2) 33 #[.int .i64 er]
theorem assert_trouble (er : Int) (W : World) : (Instr.typeAssert (.iface 106 (.int .i64 er)) 20 106 false).run Tryz.prog W = .ok (.int .i64 er) W:=by kernel_rfl
theorem Three.drew {w : World} {b : Nat} {cs : Array Value} {n e0 : Int} (h : Three w b cs n e0) : Three w.drew b cs n e0:=h
theorem eC {w : World} {b : Nat} {c0 c1 c2 c3 c4 : Value} {n e0 : Int} (h : Three w b #[c0,c1,c2,c3,c4] n e0) (m er : Int) :
  Three (((((((w.setCell ⟨b,0,none⟩ (.int .i64 0)).setCell ⟨b,1,none⟩ (.bool false)).setCell ⟨b,2,none⟩ (.int .i64 0)).setCell ⟨b,3,none⟩ (.string ⟨#[]⟩)).setCell ⟨b,4,none⟩ (.slice none 0 0)).setCell ⟨b + 1,0,none⟩ (.int .i64 m)).setCell ⟨b + 2,0,none⟩ (.int .i64 er)) b (flat 0 0 ⟨#[]⟩) m er ∧
  Off [b,b + 1,b + 2] w (((((((w.setCell ⟨b,0,none⟩ (.int .i64 0)).setCell ⟨b,1,none⟩ (.bool false)).setCell ⟨b,2,none⟩ (.int .i64 0)).setCell ⟨b,3,none⟩ (.string ⟨#[]⟩)).setCell ⟨b,4,none⟩ (.slice none 0 0)).setCell ⟨b + 1,0,none⟩ (.int .i64 m)).setCell ⟨b + 2,0,none⟩ (.int .i64 er)):=by
 obtain ⟨h0,h1,h2⟩:=h
 refine ⟨⟨?_,?_,?_⟩,?_⟩
 ·have:=((((((h0.put 0 (.int .i64 0)).put 1 (.bool false)).put 2 (.int .i64 0)).put 3 (.string ⟨#[]⟩)).put 4 (.slice none 0 0)).far (p:=⟨b + 1,0,none⟩) (by simp) (.int .i64 m)).far (p:=⟨b + 2,0,none⟩) (by simp) (.int .i64 er)
  simpa [flat] using this
 ·have:=((((((h1.far (p:=⟨b,0,none⟩) (by simp) (.int .i64 0)).far (p:=⟨b,1,none⟩) (by simp) (.bool false)).far (p:=⟨b,2,none⟩) (by simp) (.int .i64 0)).far (p:=⟨b,3,none⟩) (by simp) (.string ⟨#[]⟩)).far (p:=⟨b,4,none⟩) (by simp) (.slice none 0 0)).put 0 (.int .i64 m)).far (p:=⟨b + 2,0,none⟩) (by simp) (.int .i64 er)
  simpa using this
 ·have:=((((((h2.far (p:=⟨b,0,none⟩) (by simp) (.int .i64 0)).far (p:=⟨b,1,none⟩) (by simp) (.bool false)).far (p:=⟨b,2,none⟩) (by simp) (.int .i64 0)).far (p:=⟨b,3,none⟩) (by simp) (.string ⟨#[]⟩)).far (p:=⟨b,4,none⟩) (by simp) (.slice none 0 0)).far (p:=⟨b + 1,0,none⟩) (by simp) (.int .i64 m)).put 0 (.int .i64 er)
  simpa using this
 ·exact (((((((Off.refl _ _).setCell (Or.inl (by simp)) _).setCell (Or.inl (by simp)) _).setCell (Or.inl (by simp)) _).setCell (Or.inl (by simp)) _).setCell (Or.inl (by simp)) _).setCell (Or.inl (by simp)) _).setCell (Or.inl (by simp)) _
theorem decode_catch (b : Nat) (c0 c1 c2 c3 c4 : Value) (n e0 : Int) (er : Nat) (w : World) (h3 : Three w b #[c0,c1,c2,c3,c4] n e0) :
  CallsD Tryz.prog 66 #[.pointer (some ⟨b,0,none⟩),.pointer (some ⟨b + 1,0,none⟩),.pointer (some ⟨b + 2,0,none⟩)] (.panicking [{ v:=.iface 106 (.int .i64 er),recovered:=false }]) w fun e u' w' =>
   e = .returned (.tuple #[]) /\ u' = .panicking [{ v:=.iface 106 (.int .i64 er),recovered:=true }] /\ Three w' b (flat 0 0 ⟨#[]⟩) 0 er /\ Off [b,b + 1,b + 2] w w':=by
 obtain ⟨h0,h1,h2⟩:=h3
 obtain ⟨z0,z1,z2,z3,z4⟩:=h0.five
 have y:=h1.cell 0
 have x:=h2.cell 0
 have f0:=h0.frozen 0
 have f1:=h0.frozen 1
 have f2:=h0.frozen 2
 have f3:=h0.frozen 3
 have f4:=h0.frozen 4
 have fy:=h1.frozen 0
 have fx:=h2.frozen 0
 simp at x y
 have hta:=assert_trouble er
 refine callsD_of_wpS Tryz.func66 rfl fun c₀ cs hu => ?_
 apply wpS_seq
 apply wpS_region
 simp [wpOpsS,go_sem,recoverD,hu,Tryz.ntmps66,Exit.thenS]
 refine wpS_of_wp ?_
 have e1 : (#[Value.pointer (some { block:=b,off:=0 }),Value.pointer (some { block:=b + 1,off:=0 }),Value.pointer (some { block:=b + 2,off:=0 })] ++
     ((Array.replicate 7 undef).setIfInBounds 1 (Value.iface 106 (Value.int IntKind.i64 er))).setIfInBounds 0 (Value.iface 106 (Value.int IntKind.i64 er)) : Array Value) =
   #[Value.pointer (some { block:=b,off:=0 }),Value.pointer (some { block:=b + 1,off:=0 }),Value.pointer (some { block:=b + 2,off:=0 }),Value.iface 106 (Value.int IntKind.i64 er),Value.iface 106 (Value.int IntKind.i64 er),undef,undef,undef,undef,undef]:=rfl
 rw [e1]
 clear e1
 go_wp2_with fail
 go_region
 go_wp2_with fail
 refine ⟨rfl,_,rfl,.tuple #[],?_,rfl,rfl,?_,?_⟩
 ·simp [results,Tryz.results66]
 ·exact (eC ⟨h0,h1,h2⟩ 0 er).1.drew
 ·exact (eC ⟨h0,h1,h2⟩ 0 er).2.drew
theorem decode_idle (a b c : Value) (w : World) :
  CallsD Tryz.prog 66 #[a,b,c] .returning w fun e u' w' => e = .returned (.tuple #[]) /\ u' = .returning /\ w' = w:=by
 refine callsD_of_wpS Tryz.func66 rfl fun c₀ cs hu => ?_
 apply wpS_seq
 apply wpS_region
 simp [wpOpsS,go_sem,recoverD,hu,Tryz.ntmps66,Exit.thenS]
 refine wpS_of_wp ?_
 have e1 : (#[a,b,c] ++ ((Array.replicate 7 undef).setIfInBounds 1 Value.nilIface).setIfInBounds 0 Value.nilIface : Array Value) = #[a,b,c,Value.nilIface,Value.nilIface,undef,undef,undef,undef,undef]:=rfl
 rw [e1]
 clear e1
 go_wp2_with fail
 refine ⟨rfl,.returning,?_,.tuple #[],?_,rfl,rfl,rfl⟩
 ·cases c₀; simp_all
 ·simp [results,Tryz.results66]
namespace PB
def dec (l : List UInt8) : Tl × Nat × Nat :=
 if (total l).2 ≠ 0 then (.mk 0 false 0 ByteArray.empty [],0,(total l).2) else
 if l.length < (total l).1 then (.mk 0 false 0 ByteArray.empty [],0,3) else
 match val 15 (l.take (total l).1) with
 | .ok t => (t,(total l).1,0)
 | .error e => (.mk 0 false 0 ByteArray.empty [],0,e)
end PB
def ez (r : Tl × Nat × Nat) (w : World) (e : Ending) (w' : World) : Prop :=
 Below w.heap.size w w' /\ ∃ cs,e = .returned (.tuple #[.agg cs,.int .i64 r.2.1,.int .i64 r.2.2]) /\ TlAt w' (fun b => w.heap.size <= b) r.1 cs
theorem fK {w : World} {S : Nat -> Prop} : TlAt w S (.mk 0 false 0 ByteArray.empty []) (flat 0 0 ⟨#[]⟩):=by
 unfold TlAt
 exact ⟨none,0,rfl,⟨Nat.zero_le _,Nat.zero_le _⟩,by decide,by decide,by decide,by unfold KsAt; trivial⟩
def dm (w : World) (c0 : Array Value) : World:=((w.alloc (.cells c0 42)).alloc (.cells #[.int .i64 0] 3)).alloc (.cells #[.int .i64 0] 33)
theorem da (w : World) (c0 : Array Value) : Below w.heap.size w (dm w c0) :=
 (((Below.refl _ _).alloc (Nat.le_refl _) _).alloc (by simp) _).alloc (by simp; omega) _
theorem cZ (w : World) (c0 : Array Value) : Three (dm w c0) w.heap.size c0 0 0:=by
 refine ⟨?_,?_,?_⟩
 ·exact ((Bk.new w _ c0).alloc _).alloc _
 ·have:=(Bk.new (w.alloc (.cells c0 42)) 3 #[.int .i64 0]).alloc (.cells #[.int .i64 0] 33)
  simpa [dm] using this
 ·have:=Bk.new ((w.alloc (.cells c0 42)).alloc (.cells #[.int .i64 0] 3)) 33 #[.int .i64 0]
  simpa [dm] using this
theorem three_er {w : World} {b : Nat} {cs : Array Value} {n e0 : Int} (h : Three w b cs n e0) (er : Int) :
  Three (w.setCell ⟨b + 1 + 1,0,none⟩ (.int .i64 er)) b cs n er:=by
 obtain ⟨h0,h1,h2⟩:=h
 refine ⟨?_,?_,?_⟩
 ·exact h0.far (p:=⟨b + 1 + 1,0,none⟩) (by simp; omega) _
 ·exact h1.far (p:=⟨b + 1 + 1,0,none⟩) (by simp) (.int .i64 er)
 ·simpa using h2.put 0 (.int .i64 er)
theorem three_puts {w : World} {b : Nat} {c0 c1 c2 c3 c4 : Value} {n e0 : Int} (h : Three w b #[c0,c1,c2,c3,c4] n e0) (v0 v1 v2 v3 v4 : Value) (m er : Int) :
  Three (((((((w.setCell ⟨b,0,none⟩ v0).setCell ⟨b,1,none⟩ v1).setCell ⟨b,2,none⟩ v2).setCell ⟨b,3,none⟩ v3).setCell ⟨b,4,none⟩ v4).setCell ⟨b + 1,0,none⟩ (.int .i64 m)).setCell ⟨b + 2,0,none⟩ (.int .i64 er)) b #[v0,v1,v2,v3,v4] m er ∧
  Off [b,b + 1,b + 2] w (((((((w.setCell ⟨b,0,none⟩ v0).setCell ⟨b,1,none⟩ v1).setCell ⟨b,2,none⟩ v2).setCell ⟨b,3,none⟩ v3).setCell ⟨b,4,none⟩ v4).setCell ⟨b + 1,0,none⟩ (.int .i64 m)).setCell ⟨b + 2,0,none⟩ (.int .i64 er)):=by
 obtain ⟨h0,h1,h2⟩:=h
 refine ⟨⟨?_,?_,?_⟩,?_⟩
 ·have:=((((((h0.put 0 v0).put 1 v1).put 2 v2).put 3 v3).put 4 v4).far (p:=⟨b + 1,0,none⟩) (by simp) (.int .i64 m)).far (p:=⟨b + 2,0,none⟩) (by simp) (.int .i64 er)
  simpa using this
 ·have:=((((((h1.far (p:=⟨b,0,none⟩) (by simp) v0).far (p:=⟨b,1,none⟩) (by simp) v1).far (p:=⟨b,2,none⟩) (by simp) v2).far (p:=⟨b,3,none⟩) (by simp) v3).far (p:=⟨b,4,none⟩) (by simp) v4).put 0 (.int .i64 m)).far (p:=⟨b + 2,0,none⟩) (by simp) (.int .i64 er)
  simpa using this
 ·have:=((((((h2.far (p:=⟨b,0,none⟩) (by simp) v0).far (p:=⟨b,1,none⟩) (by simp) v1).far (p:=⟨b,2,none⟩) (by simp) v2).far (p:=⟨b,3,none⟩) (by simp) v3).far (p:=⟨b,4,none⟩) (by simp) v4).far (p:=⟨b + 1,0,none⟩) (by simp) (.int .i64 m)).put 0 (.int .i64 er)
  simpa using this
 ·exact (((((((Off.refl _ _).setCell (Or.inl (by simp)) _).setCell (Or.inl (by simp)) _).setCell (Or.inl (by simp)) _).setCell (Or.inl (by simp)) _).setCell (Or.inl (by simp)) _).setCell (Or.inl (by simp)) _).setCell (Or.inl (by simp)) _
theorem dec_tlAt {w W w4 w5 : World} {c0 cs : Array Value} {n e0 : Int} {t : Tl} (h : Below w.heap.size w W) (h3 : Three W w.heap.size c0 n e0) (ht : TlAt w4 (fun b => W.heap.size <= b) t cs) (h5 : Off [w.heap.size,w.heap.size + 1,w.heap.size + 2] w4 w5) : TlAt w5 (fun b => w.heap.size <= b) t cs:=by
 have hlt:=h3.2.2.lt
 have hsz:=h.size
 refine TlAt.keep h5.size (fun b hS hl => h5.block b hl ?_) (fun b hS _ => ?_) t cs ht
 ·intro hm
  simp at hm
  omega
 ·exact Nat.le_trans hsz hS
theorem eB {w : World} {b : Nat} {cs : Array Value} {n e0 : Int} (h : Three w b cs n e0) (m er : Int) :
  Three ((w.setCell ⟨b + 1,0,none⟩ (.int .i64 m)).setCell ⟨b + 1 + 1,0,none⟩ (.int .i64 er)) b cs m er:=by
 obtain ⟨h0,h1,h2⟩:=h
 refine ⟨?_,?_,?_⟩
 ·exact (h0.far (p:=⟨b + 1,0,none⟩) (by simp) _).far (p:=⟨b + 1 + 1,0,none⟩) (by simp; omega) _
 ·simpa using (h1.put 0 (.int .i64 m)).far (p:=⟨b + 1 + 1,0,none⟩) (by simp) (.int .i64 er)
 ·simpa using (h2.far (p:=⟨b + 1,0,none⟩) (by simp) (.int .i64 m)).put 0 (.int .i64 er)
theorem Three.drewN {w : World} {b : Nat} {cs : Array Value} {n e0 : Int} (h : Three w b cs n e0) (m : Nat) : Three (w.drewN m) b cs n e0:=h
theorem dD {tm : Array Value} {w : World} {b : Nat} {c0 c1 c2 c3 c4 : Value} {n er : Int} (h2 : tm[2]? = some (.pointer (some ⟨b,0,none⟩))) (h3 : tm[3]? = some (.pointer (some ⟨b + 1,0,none⟩))) (h4 : tm[4]? = some (.pointer (some ⟨b + 2,0,none⟩)))
  (h : Three w b #[c0,c1,c2,c3,c4] n er) : Sem.run Tryz.prog (results Tryz.f38 tm) w = .ok (.tuple #[.agg #[c0,c1,c2,c3,c4],.int .i64 n,.int .i64 er]) w:=by
 obtain ⟨k0,k1,k2⟩:=h
 obtain ⟨z0,z1,z2,z3,z4⟩:=k0.five
 have y:=k1.cell 0
 have x:=k2.cell 0
 simp at x y
 simp [results,Tryz.results38,go_sem,h2,h3,h4,z0,z1,z2,z3,z4,x,y]
theorem Three.below {w w' : World} {b : Nat} {cs : Array Value} {n e0 : Int} (h : Three w b cs n e0) (hb : Below w.heap.size w w') : Three w' b cs n e0 :=
 ⟨(Off.of_below hb []).bk h.1 (by simp),(Off.of_below hb []).bk h.2.1 (by simp),(Off.of_below hb []).bk h.2.2 (by simp)⟩
theorem dec_below {w W w4 w5 : World} (h : Below w.heap.size w W) (h4 : Below W.heap.size W w4) (h5 : Off [w.heap.size,w.heap.size + 1,w.heap.size + 2] w4 w5) : Below w.heap.size w w5:=by
 have h6:=h5.below (B:=w.heap.size) (Nat.le_trans h.size h4.size) (by intro g hg; simp at hg; omega)
 exact (h.trans (h4.mono h.size)).trans h6
theorem decode_err (s : ByteArray) (w : World) (hs : s.size <= 1000000) (h : (PB.total s.data.toList).2 ≠ 0) :
  Calls Tryz.prog 38 #[.string s] w (ez (PB.dec s.data.toList) w):=by
 have hd : PB.dec s.data.toList = (.mk 0 false 0 ByteArray.empty [],0,(PB.total s.data.toList).2):=by unfold PB.dec; rw [if_pos h]
 rw [hd]
 have HL:=aa fun W : World => eU s W (by unfold maxLen; omega)
 clear hd
 generalize PB.total s.data.toList = p at HL h
 obtain ⟨n,er⟩:=p
 dsimp only at HL h |-
 have t1 : ((er : Int) == 0) = false:=by simp; omega
 have t2 : ((er : Int) != 0) = true:=by simp; omega
 have hmf : ∀ (fn : Fn) (first cap : Array Value) (w : World),(Instr.makeFunc fn first cap).run Tryz.prog w = .ok (.func fn first cap) w:=fun _ _ _ _ => rfl
 go_enter_defers Tryz.func38,Tryz.ntmps38
 go_wp2_with (go_at_call 65; refine (HL.out _).mono ?_; rintro e w' ⟨rfl,nq,rfl⟩)
 go_region
 go_wp2_with fail
 have ho:=eB (Three.drewN (cZ w #[.int .i64 0,.bool false,.int .i64 0,.string ⟨#[]⟩,.slice none 0 0]) nq) n er
 have hz:=eC ho 0 er
 have hb : Below w.heap.size w (((dm w #[.int .i64 0,.bool false,.int .i64 0,.string ⟨#[]⟩,.slice none 0 0]).drewN nq).setCell ⟨w.heap.size + 1,0,none⟩ (.int .i64 n) |>.setCell ⟨w.heap.size + 1 + 1,0,none⟩ (.int .i64 er)):=((below_drewN (da w _) _).setCell (by simp) _).setCell (by simp; omega) _
 refine ⟨_,dD rfl rfl rfl hz.1.drew,?_,_,rfl,fK⟩
 exact (((dE hb _ _ _ _ _).setCell (by simp) _).setCell (by simp; omega) _).drew
theorem decode_short (s : ByteArray) (w : World) (hs : s.size <= 1000000) (h : (PB.total s.data.toList).2 = 0) (hn : s.size < (PB.total s.data.toList).1) :
  Calls Tryz.prog 38 #[.string s] w (ez (PB.dec s.data.toList) w):=by
 have hd : PB.dec s.data.toList = (.mk 0 false 0 ByteArray.empty [],0,3):=by unfold PB.dec; rw [if_neg (by omega),ax,if_pos hn]
 rw [hd]
 have HL:=aa fun W : World => eU s W (by unfold maxLen; omega)
 clear hd
 generalize PB.total s.data.toList = p at HL h hn
 obtain ⟨n,er⟩:=p
 dsimp only at HL h hn |-
 subst h
 have HL:=aa (show ∀ W : World,Calls Tryz.prog 65 #[.string s] W (Tells2 (n : Int) 0 W) from HL.out)
 have t1 : decide ((s.size : Int) < n) = true:=by simp; omega
 have t2 : s.size < n:=hn
 have hmf : ∀ (fn : Fn) (first cap : Array Value) (w : World),(Instr.makeFunc fn first cap).run Tryz.prog w = .ok (.func fn first cap) w:=fun _ _ _ _ => rfl
 go_enter_defers Tryz.func38,Tryz.ntmps38
 go_upto_region 4 with (go_at_call 65; refine (HL.out _).mono ?_; rintro e w' ⟨rfl,nq,rfl⟩)
 have ho:=eB (Three.drewN (cZ w #[.int .i64 0,.bool false,.int .i64 0,.string ⟨#[]⟩,.slice none 0 0]) nq) n 0
 have ho1:=three_er ho 3
 have hz:=aa (eC ho1 0 3)
 have hx : World.cell? _ ⟨w.heap.size + 1 + 1,0,none⟩ = some (.int .i64 3):=ho1.2.2.cell 0
 unfold dm at hx
 clear ho ho1
 go_wp2_with fail
 go_region
 go_wp2_with fail
 clear hx
 have hb : Below w.heap.size w (((dm w #[.int .i64 0,.bool false,.int .i64 0,.string ⟨#[]⟩,.slice none 0 0]).drewN nq).setCell ⟨w.heap.size + 1,0,none⟩ (.int .i64 n) |>.setCell ⟨w.heap.size + 1 + 1,0,none⟩ (.int .i64 0) |>.setCell ⟨w.heap.size + 1 + 1,0,none⟩ (.int .i64 3)):=(((below_drewN (da w _) _).setCell (by simp) _).setCell (by simp; omega) _).setCell (by simp; omega) _
 refine ⟨_,dD rfl rfl rfl hz.out.1.drew,?_,_,rfl,fK⟩
 exact (((dE hb _ _ _ _ _).setCell (by simp) _).setCell (by simp; omega) _).drew
theorem decode_val (s : ByteArray) (w : World) (hs : s.size <= 1000000) (h : (PB.total s.data.toList).2 = 0) (hn : ¬ s.size < (PB.total s.data.toList).1) :
  Calls Tryz.prog 38 #[.string s] w (ez (PB.dec s.data.toList) w):=by
 have hd : PB.dec s.data.toList = (match PB.val 15 (s.data.toList.take (PB.total s.data.toList).1) with | .ok t => (t,(PB.total s.data.toList).1,0) | .error e => (.mk 0 false 0 ByteArray.empty [],0,e)):=by unfold PB.dec; rw [if_neg (by omega),ax,if_neg hn]
 rw [hd]
 have HL:=aa fun W : World => eU s W (by unfold maxLen; omega)
 have hcap : (PB.total s.data.toList).1 <= 8192:=by
  unfold PB.total
  split
  ·exact Nat.zero_le _
  ·split
   ·exact Nat.zero_le _
   ·dsimp only; omega
 clear hd
 generalize PB.total s.data.toList = p at HL h hn hcap
 obtain ⟨n,er⟩:=p
 dsimp only at HL h hn hcap |-
 subst h
 have HL:=aa (show ∀ W : World,Calls Tryz.prog 65 #[.string s] W (Tells2 (n : Int) 0 W) from HL.out)
 have t1 : decide ((s.size : Int) < n) = false:=by simp; omega
 have t2 : n <= s.size:=by omega
 have hpz : (s.extract 0 n).size <= 8192:=by rw [ByteArray.size_extract]; omega
 have hex : s.data.toList.take n = (s.extract 0 n).data.toList:=by rw [bp]; simp
 rw [hex]
 have HC:=fun W : World => value_any 15 (s.extract 0 n) 1 W rfl hpz
 clear hex hn hs
 have hmf : ∀ (fn : Fn) (first cap : Array Value) (w : World),(Instr.makeFunc fn first cap).run Tryz.prog w = .ok (.func fn first cap) w:=fun _ _ _ _ => rfl
 cases hval : PB.val 15 (s.extract 0 n).data.toList with
 | error er =>
  rw [hval] at HC
  have HC2:=aa HC
  clear HC hval
  dsimp only
  go_enter_defers Tryz.func38,Tryz.ntmps38
  go_upto_region 7 with (go_at_call 65; refine (HL.out _).mono ?_; rintro e w' ⟨rfl,nq,rfl⟩)
  have h3:=eB (Three.drewN (cZ w #[.int .i64 0,.bool false,.int .i64 0,.string ⟨#[]⟩,.slice none 0 0]) nq) n 0
  have hb : Below w.heap.size w (((dm w #[.int .i64 0,.bool false,.int .i64 0,.string ⟨#[]⟩,.slice none 0 0]).drewN nq).setCell ⟨w.heap.size + 1,0,none⟩ (.int .i64 n) |>.setCell ⟨w.heap.size + 1 + 1,0,none⟩ (.int .i64 0)):=((below_drewN (da w _) _).setCell (by simp) _).setCell (by simp; omega) _
  unfold dm at h3 hb
  generalize hW : ((((((w.alloc (.cells #[.int .i64 0,.bool false,.int .i64 0,.string ⟨#[]⟩,.slice none 0 0] 42)).alloc (.cells #[.int .i64 0] 3)).alloc (.cells #[.int .i64 0] 33)).drewN nq).setCell ⟨w.heap.size + 1,0,none⟩ (.int .i64 n)).setCell ⟨w.heap.size + 1 + 1,0,none⟩ (.int .i64 0)) = W at *
  clear hW
  have y : W.cell? ⟨w.heap.size + 1,0,none⟩ = some (.int .i64 n):=h3.2.1.cell 0
  have H3:=aa h3
  have HB:=aa hb
  clear h3 hb
  first | go_region_dies | fail
  all_goals
   refine (HC2.out _).mono ?_
   rintro e w4 ⟨hb4,hthr⟩
   unfold Throws at hthr
   subst hthr
   have h4:=H3.out.drew.below hb4
   refine leaves_cons (f:=66) (args:=#[.pointer (some ⟨w.heap.size,0,none⟩),.pointer (some ⟨w.heap.size + 1,0,none⟩),.pointer (some ⟨w.heap.size + 2,0,none⟩)]) (by simp) (by simp [go_sem]) ?_
   refine (decode_catch w.heap.size _ _ _ _ _ n 0 er _ h4).mono ?_
   rintro e u' w5 ⟨rfl,rfl,h5,off5⟩
   refine ⟨_,dD rfl rfl rfl h5,?_,_,rfl,fK⟩
   exact dec_below HB.out.drew hb4 off5
 | ok t =>
  rw [hval] at HC
  have HC2:=aa HC
  clear HC hval
  dsimp only
  go_enter_defers Tryz.func38,Tryz.ntmps38
  go_upto_region 7 with (go_at_call 65; refine (HL.out _).mono ?_; rintro e w' ⟨rfl,nq,rfl⟩)
  have h3:=eB (Three.drewN (cZ w #[.int .i64 0,.bool false,.int .i64 0,.string ⟨#[]⟩,.slice none 0 0]) nq) n 0
  have hb : Below w.heap.size w (((dm w #[.int .i64 0,.bool false,.int .i64 0,.string ⟨#[]⟩,.slice none 0 0]).drewN nq).setCell ⟨w.heap.size + 1,0,none⟩ (.int .i64 n) |>.setCell ⟨w.heap.size + 1 + 1,0,none⟩ (.int .i64 0)):=((below_drewN (da w _) _).setCell (by simp) _).setCell (by simp; omega) _
  unfold dm at h3 hb
  generalize hW : ((((((w.alloc (.cells #[.int .i64 0,.bool false,.int .i64 0,.string ⟨#[]⟩,.slice none 0 0] 42)).alloc (.cells #[.int .i64 0] 3)).alloc (.cells #[.int .i64 0] 33)).drewN nq).setCell ⟨w.heap.size + 1,0,none⟩ (.int .i64 n)).setCell ⟨w.heap.size + 1 + 1,0,none⟩ (.int .i64 0)) = W at *
  clear hW
  have y : W.cell? ⟨w.heap.size + 1,0,none⟩ = some (.int .i64 n):=h3.2.1.cell 0
  have H3:=aa h3
  have HB:=aa hb
  clear h3 hb
  first | go_region_law ((first
   | (go_simp; go_at_call 67; refine (HC2.out _).mono ?_; rintro e w4 ⟨hb4,cs,rfl,ht⟩; obtain ⟨x0,x1,x2,x3,xA,xn,xc,rfl⟩:=ak ht; have h4:=aa (H3.out.drew.below hb4); obtain ⟨z0,z1,z2,z3,z4⟩:=h4.out.1.five; have zf:=h4.out.1.frozen; have y1 : w4.cell? ⟨w.heap.size + 1,0,none⟩ = some (.int .i64 n):=h4.out.2.1.cell 0; have yf:=h4.out.2.1.frozen 0; have x9 : w4.cell? ⟨w.heap.size + 1 + 1,0,none⟩ = some (.int .i64 0):=h4.out.2.2.cell 0; have xf : w4.frozen? ⟨w.heap.size + 1 + 1,0,none⟩ = false:=h4.out.2.2.frozen 0)
   | fail)) | fail
  all_goals
   try go_wp2_with fail
   have h5:=three_puts h4.out (.int .i64 x0) (.bool x1) (.int .i64 x2) (.string x3) (.slice xA xn xc) n 0
   refine leaves_cons (f:=66) (args:=#[.pointer (some ⟨w.heap.size,0,none⟩),.pointer (some ⟨w.heap.size + 1,0,none⟩),.pointer (some ⟨w.heap.size + 2,0,none⟩)]) (by simp) (by simp [go_sem]) ?_
   refine (decode_idle _ _ _ _).mono ?_
   rintro e u' w5 ⟨rfl,rfl,rfl⟩
   refine ⟨_,dD rfl rfl rfl h5.1,?_,_,rfl,?_⟩
   ·exact dec_below HB.out.drew hb4 h5.2
   ·exact dec_tlAt HB.out H3.out ht h5.2
theorem decode_any (s : ByteArray) (w : World) (hs : s.size <= 1000000) :
  Calls Tryz.prog 38 #[.string s] w (ez (PB.dec s.data.toList) w):=by
 by_cases h : (PB.total s.data.toList).2 = 0
 ·by_cases hn : s.size < (PB.total s.data.toList).1
  ·exact decode_short s w hs h hn
  ·exact decode_val s w hs h hn
 ·exact decode_err s w hs h
mutual
def Tl.right : Tl -> Nat -> Bool
 | .mk c k g b ks,d => if 16 < d \/ c < 0 \/ 3 < c \/ g < 0 \/ 30 < g then false else if k then Tl.rights ks (d + 1) && b.toList.isEmpty else ks.isEmpty
def Tl.rights : List Tl -> Nat -> Bool
 | [],_ => true
 | k :: ks,d => k.right d && Tl.rights ks d
end
theorem Tl.rights_step (ks : List Tl) (j d : Nat) (h : j < ks.length) : Tl.rights (ks.drop j) d = (ks[j].right d && Tl.rights (ks.drop (j + 1)) d):=by
 rw [List.drop_eq_getElem_cons h,Tl.rights]
theorem Tl.rights_end (ks : List Tl) (j d : Nat) (h : ks.length <= j) : Tl.rights (ks.drop j) d = true:=by
 rw [List.drop_eq_nil_of_le h,Tl.rights]
def aq (q : Bool) (w : World) (e : Ending) (w' : World) : Prop:=e = .returned (.bool q) /\ Below w.heap.size w w'
theorem ah {q q' : Bool} {w w' : World} (h : q = q') (hb : Below w.heap.size w w') : aq q w (.returned (.bool q')) w':=by
 subst h
 exact ⟨rfl,hb⟩
theorem right_no (c g : Int) (k : Bool) (b : ByteArray) (A : Option Addr) (n cap d : Nat) (w : World) (hd : d <= 17) (h : 16 < d \/ c < 0 \/ 3 < c \/ g < 0 \/ 30 < g) :
  Calls Tryz.prog 85 #[.agg #[.int .i64 c,.bool k,.int .i64 g,.string b,.slice A n cap],.int .i64 d] w (aq false w):=by
 by_cases h1 : 16 < d
 ·clear h
  go_enter Tryz.func85,Tryz.ntmps85
  go_wp2_with fail
  go_ret
  exact ⟨rfl,(Below.refl _ _).alloc (Nat.le_refl _) _⟩
 by_cases h2 : c < 0
 ·clear h
  go_enter Tryz.func85,Tryz.ntmps85
  go_wp2_with fail
  go_ret
  exact ⟨rfl,(Below.refl _ _).alloc (Nat.le_refl _) _⟩
 by_cases h3 : 3 < c
 ·clear h
  go_enter Tryz.func85,Tryz.ntmps85
  go_wp2_with fail
  go_ret
  exact ⟨rfl,(Below.refl _ _).alloc (Nat.le_refl _) _⟩
 by_cases h4 : g < 0
 ·clear h
  go_enter Tryz.func85,Tryz.ntmps85
  go_wp2_with fail
  go_ret
  exact ⟨rfl,(Below.refl _ _).alloc (Nat.le_refl _) _⟩
 ·have h5 : 31 <= g:=by omega
  clear h
  go_enter Tryz.func85,Tryz.ntmps85
  go_wp2_with fail
  go_ret
  exact ⟨rfl,(Below.refl _ _).alloc (Nat.le_refl _) _⟩
theorem right_any (n : Nat) : ∀ (S : Nat -> Prop) (t : Tl) (cs : Array Value) (d : Nat) (w : World),t.rank <= n -> TlAt w S t cs -> d <= 17 →
  Calls Tryz.prog 85 #[.agg cs,.int .i64 d] w (aq (t.right d) w):=by
 induction n with
 | zero =>
  intro S t cs d w hr
  obtain ⟨c,k,g,b,ks⟩:=t
  unfold Tl.rank at hr
  omega
 | succ n ih =>
  intro S t cs d w hr ht hd
  obtain ⟨c,k,g,b,ks⟩:=t
  unfold TlAt at ht
  obtain ⟨A,cap,rfl,⟨hkc,hkm⟩,hc,hg,hb,hk⟩:=ht
  have hks:=Nat.le_trans hkc hkm
  clear hkc hkm
  unfold Tl.rank at hr
  unfold maxLen at hb hks
  have hpre:=Tl.right.eq_1 d c k g b ks
  by_cases hbad : 16 < d \/ c < 0 \/ 3 < c \/ g < 0 \/ 30 < g
  ·rw [if_pos hbad] at hpre
   rw [hpre]
   exact right_no _ _ _ _ _ _ _ _ _ hd hbad
  rw [if_neg hbad] at hpre
  have IH:=aa ih
  have HK:=aa hk
  clear ih hk hc hg
  have h1 : d <= 16:=by omega
  have h2 : 0 <= c:=by omega
  have h3 : c <= 3:=by omega
  have h4 : 0 <= g:=by omega
  have h5 : g < 31:=by omega
  have t1 : decide ((16 : Int) < d) = false:=by simp; omega
  have t2 : decide (c < 0) = false:=by simp; omega
  have t3 : decide (3 < c) = false:=by simp; omega
  have t4 : decide (g < 0) = false:=by simp; omega
  have t5 : decide (31 <= g) = false:=by simp; omega
  clear hbad
  cases k with
  | false =>
   rw [if_neg (by simp)] at hpre
   rw [hpre]
   clear hpre
   by_cases hz : ks.length = 0
   ·have hz' : ((ks.length : Int) == 0) = true:=by simp; exact List.eq_nil_of_length_eq_zero hz
    have e : ks.isEmpty = true:=by simp; exact List.eq_nil_of_length_eq_zero hz
    rw [e]
    clear hz e
    go_enter Tryz.func85,Tryz.ntmps85
    go_wp2_with fail
    go_ret
    exact ah (by first | rfl | exact hz'.symm | simp) ((Below.refl _ _).alloc (Nat.le_refl _) _)
   ·have hz' : ((ks.length : Int) == 0) = false:=by
     simp
     intro e
     subst e
     exact hz rfl
    have e : ks.isEmpty = false:=by
     cases ks with
     | nil => exact absurd rfl hz
     | cons _ _ => rfl
    rw [e]
    clear hz e
    go_enter Tryz.func85,Tryz.ntmps85
    go_wp2_with fail
    go_ret
    exact ah (by first | rfl | exact hz'.symm) ((Below.refl _ _).alloc (Nat.le_refl _) _)
  | true =>
   rw [if_pos rfl] at hpre
   have HP:=aa hpre
   clear hpre
   have hwk : Bk (w.alloc (.cells #[.int .i64 c,.bool true,.int .i64 g,.string b,.slice A ks.length cap] 42)) w.heap.size 42 #[.int .i64 c,.bool true,.int .i64 g,.string b,.slice A ks.length cap]:=Bk.new _ _ _
   have hbw : Below w.heap.size w (w.alloc (.cells #[.int .i64 c,.bool true,.int .i64 g,.string b,.slice A ks.length cap] 42)):=(Below.refl _ _).alloc (Nat.le_refl _) _
   obtain ⟨w1,hw1⟩ : ∃ w1,w1 = w.alloc (.cells #[.int .i64 c,.bool true,.int .i64 g,.string b,.slice A ks.length cap] 42):=⟨_,rfl⟩
   rw [<- hw1] at hwk hbw
   have HW1:=aa hw1
   have HWK:=aa hwk
   have HBW:=aa hbw
   clear hw1 hwk hbw
   go_enter Tryz.func85,Tryz.ntmps85
   go_wp2_with fail
   rw [<- HW1.out]
   go_loopw [39] (fun i wr => ∃ (j : Nat),i = .int .i64 j /\ j <= ks.length /\ Hid (Tl.rights ks (d + 1) = Tl.rights (ks.drop j) (d + 1)) /\ Below w1.heap.size w1 wr) (fun i _ => ks.length - (intOf i).toNat)
   case atStart => exact ⟨0,rfl,Nat.zero_le _,rfl,Below.refl _ _⟩
   case round =>
    obtain ⟨j,rfl,hj,HE,hbel⟩:=hrel
    have hcell:=(af HWK.out hbel).cell 3
    simp at hcell
    have HB:=aa hbel
    have HR:=aa (HBW.out.trans (hbel.mono HBW.out.size))
    clear hbel
    by_cases hlt : j < ks.length
    ·obtain ⟨b1,o1,c0,c1,c2,c3,c4,rfl,⟨_,hb1⟩,q0,q1,q2,q3,q4,ht⟩:=(KsAt.below HR.out ks A 0 HK.out).get j hlt
     have hrk:=Tl.rank_mem (List.getElem_mem hlt)
     obtain ⟨x0,x1,x2,x3,xA,xn,xc,hcs⟩:=ak ht
     simp only [Array.mk.injEq,List.cons.injEq,and_true] at hcs
     obtain ⟨rfl,rfl,rfl,rfl,rfl⟩:=hcs
     have HC:=fun o : Obj => IH.out S ks[j] _ (d + 1) (wr.alloc o) (by omega) (TlAt.below ((Below.refl _ _).alloc (Nat.le_refl _) _) _ _ ht) (by omega)
     have hst:=Tl.rights_step ks j (d + 1) hlt
     rw [Nat.zero_add] at q0 q1 q2 q3 q4
     rw [Int.natCast_add] at HC
     clear ht
     cases hq : ks[j].right (d + 1) with
     | true =>
      rw [hq] at HC hst
      rw [Bool.true_and] at hst
      have HC2:=aa HC
      have HST:=aa hst
      clear HC hst hq
      go_wp2_with (go_at_call 85; refine (HC2.out _).mono ?_; rintro e w3 ⟨rfl,hb3⟩)
      have hb4:=(HB.out.alloc HB.out.size _).trans (hb3.mono (HB.out.alloc HB.out.size _).size)
      go_roundw
      case rel => exact ⟨j + 1,by go_num,by omega,HE.out.trans HST.out,hb4⟩
      case measure => simp [intOf]; omega
     | false =>
      rw [hq] at HC hst
      rw [Bool.false_and] at hst
      have HC2:=aa HC
      have HST:=aa hst
      clear HC hst hq
      go_wp2_with (go_at_call 85; refine (HC2.out _).mono ?_; rintro e w3 ⟨rfl,hb3⟩)
      have hb4:=(HR.out.alloc HR.out.size _).trans (hb3.mono (HR.out.alloc HR.out.size _).size)
      go_ret
      exact ah (by rw [HP.out,HE.out,HST.out]; rfl) hb4
    ·have hen:=aa (Tl.rights_end ks j (d + 1) (by omega))
     go_wp2_with fail
     go_ret
     exact ah (by rw [HP.out,HE.out,hen.out]; simp) HR.out
namespace PB
mutual
def enc : Tl -> List UInt8
 | .mk c k g b ks => if k then UInt8.ofNat (c * 64 + g + 32).toNat :: (lenB (encs ks).length ++ encs ks) else UInt8.ofNat (c * 64 + g).toNat :: (lenB b.size ++ b.data.toList)
def encs : List Tl -> List UInt8
 | [] => []
 | k :: ks => enc k ++ encs ks
end
theorem encs_app (a b : List Tl) : encs (a ++ b) = encs a ++ encs b:=by
 induction a with
 | nil => simp [encs]
 | cons x a ih => simp [encs,ih]
theorem lenB_len (n : Nat) : 1 <= (lenB n).length /\ (lenB n).length <= 4:=by
 unfold lenB
 repeat' split
 all_goals simp
theorem u8_ofNat {n : Nat} (h : n < 256) : (UInt8.ofNat n).toNat = n:=by rw [UInt8.toNat_ofNat']; omega
theorem fU (x : UInt8) (l : List UInt8) : byt (x :: l) 0 = x.toNat:=rfl
theorem eL (x y : UInt8) (l : List UInt8) : byt (x :: y :: l) 1 = y.toNat:=rfl
theorem eH (x : UInt8) (n : Nat) (l : List UInt8) (hx : x.toNat % 32 ≠ 31) (hn : n < 16777216) : head (x :: (lenB n ++ l)) = (1 + (lenB n).length,n,0):=by
 unfold head
 rw [if_neg (by simp),fU,if_neg hx]
 by_cases h1 : n < 128
 ·have e : lenB n = [UInt8.ofNat n]:=by unfold lenB; rw [if_pos h1]
  rw [e,List.singleton_append,eL,u8_ofNat (by omega),if_neg (by simp),if_pos h1]
  rfl
 by_cases h2 : n < 256
 ·have e : lenB n = [129,UInt8.ofNat n]:=by unfold lenB; rw [if_neg h1,if_pos h2]
  rw [e,List.cons_append,eL]
  have e1:=u8_ofNat (n:=n) (by omega)
  simp only [num]
  rw [if_neg (by simp),if_neg (by decide),if_neg (by decide),if_neg (by simp)]
  have e3 : (129 : UInt8).toNat - 128 = 1:=by decide
  rw [e3]
  simp only [List.drop_succ_cons,List.drop_zero,List.cons_append,List.take_succ_cons,List.take_zero,List.nil_append,List.foldl_cons,List.foldl_nil,e1,List.length_cons,List.length_nil]
  rw [Nat.zero_mul,Nat.zero_add]
 by_cases h3 : n < 65536
 ·have e : lenB n = [130,UInt8.ofNat (n / 256),UInt8.ofNat (n % 256)]:=by unfold lenB; rw [if_neg h1,if_neg h2,if_pos h3]
  rw [e,List.cons_append,eL]
  have e1:=u8_ofNat (n:=n / 256) (by omega)
  have e2:=u8_ofNat (n:=n % 256) (by omega)
  simp only [num]
  rw [if_neg (by simp),if_neg (by decide),if_neg (by decide),if_neg (by simp)]
  have e3 : (130 : UInt8).toNat - 128 = 2:=by decide
  rw [e3]
  simp only [List.drop_succ_cons,List.drop_zero,List.cons_append,List.take_succ_cons,List.take_zero,List.nil_append,List.foldl_cons,List.foldl_nil,e1,e2,List.length_cons,List.length_nil]
  rw [show (0 * 256 + n / 256) * 256 + n % 256 = n by omega]
 ·have e : lenB n = [131,UInt8.ofNat (n / 65536),UInt8.ofNat (n / 256 % 256),UInt8.ofNat (n % 256)]:=by unfold lenB; rw [if_neg h1,if_neg h2,if_neg h3]
  rw [e,List.cons_append,eL]
  have e1:=u8_ofNat (n:=n / 65536) (by omega)
  have e2:=u8_ofNat (n:=n / 256 % 256) (by omega)
  have e4:=u8_ofNat (n:=n % 256) (by omega)
  simp only [num]
  rw [if_neg (by simp),if_neg (by decide),if_neg (by decide),if_neg (by simp)]
  have e3 : (131 : UInt8).toNat - 128 = 3:=by decide
  rw [e3]
  simp only [List.drop_succ_cons,List.drop_zero,List.cons_append,List.take_succ_cons,List.take_zero,List.nil_append,List.foldl_cons,List.foldl_nil,e1,e2,e4,List.length_cons,List.length_nil]
  rw [show ((0 * 256 + n / 65536) * 256 + n / 256 % 256) * 256 + n % 256 = n by omega]
theorem u8_int (z : Int) (h0 : 0 <= z) (h1 : z < 256) : ((UInt8.ofNat z.toNat).toNat : Int) = z:=by rw [u8_ofNat (by omega)]; omega
theorem head_enc (t : Tl) (d : Nat) (h : t.right d = true) (hl : (enc t).length < 16777216) (l : List UInt8) : (head (enc t ++ l)).2.2 = 0 /\ span (enc t ++ l) = (enc t).length:=by
 obtain ⟨c,k,g,b,ks⟩:=t
 unfold Tl.right at h
 by_cases hbad : 16 < d \/ c < 0 \/ 3 < c \/ g < 0 \/ 30 < g
 ·rw [if_pos hbad] at h; cases h
 unfold span
 cases k with
 | false =>
  have he : enc (.mk c false g b ks) = UInt8.ofNat (c * 64 + g).toNat :: (lenB b.size ++ b.data.toList):=by unfold enc; rw [if_neg (by decide)]
  rw [he] at hl |-
  have hu:=u8_int (c * 64 + g) (by omega) (by omega)
  rw [List.cons_append,List.append_assoc,eH _ _ _ (by omega) (by simp at hl; have : b.size = b.data.size:=rfl; omega)]
  refine ⟨rfl,?_⟩
  simp
  have : b.size = b.data.size:=rfl
  omega
 | true =>
  have he : enc (.mk c true g b ks) = UInt8.ofNat (c * 64 + g + 32).toNat :: (lenB (encs ks).length ++ encs ks):=by unfold enc; rw [if_pos rfl]
  rw [he] at hl |-
  have hu:=u8_int (c * 64 + g + 32) (by omega) (by omega)
  rw [List.cons_append,List.append_assoc,eH _ _ _ (by omega) (by simp at hl; omega)]
  refine ⟨rfl,?_⟩
  simp
  omega
theorem enc_pos (t : Tl) : 2 <= (enc t).length:=by
 obtain ⟨c,k,g,b,ks⟩:=t
 unfold enc
 split
 ·simp; have:=(lenB_len (encs ks).length).1; omega
 ·simp; have:=(lenB_len b.size).1; omega
mutual
theorem val_enc : ∀ (t : Tl) (d : Nat),1 <= d -> t.right d = true -> (enc t).length < 16777216 -> val (16 - d) (enc t) = .ok t
 | .mk c k g b ks,d,hd,h,hl => by
  have hh:=head_enc _ d h hl []
  rw [List.append_nil] at hh
  rw [val_eq]
  unfold valOf
  rw [if_neg (by omega)]
  have h':=h
  unfold Tl.right at h
  by_cases hbad : 16 < d \/ c < 0 \/ 3 < c \/ g < 0 \/ 30 < g
  ·rw [if_pos hbad] at h; cases h
  rw [if_neg hbad] at h
  cases k with
  | false =>
   rw [if_neg (by decide)] at h
   obtain rfl : ks = []:=by simpa using h
   have he : enc (.mk c false g b []) = UInt8.ofNat (c * 64 + g).toNat :: (lenB b.size ++ b.data.toList):=by unfold enc; rw [if_neg (by decide)]
   rw [he] at hl |-
   have hu:=u8_int (c * 64 + g) (by omega) (by omega)
   rw [fU,if_pos (by omega),eH _ _ _ (by omega) (by simp at hl; have : b.size = b.data.size:=rfl; omega)]
   dsimp only
   have e1 : ((((UInt8.ofNat (c * 64 + g).toNat).toNat / 64 : Nat)) : Int) = c:=by omega
   have e2 : ((((UInt8.ofNat (c * 64 + g).toNat).toNat % 32 : Nat)) : Int) = g:=by omega
   have e3 : List.drop (1 + (lenB b.size).length) (UInt8.ofNat (c * 64 + g).toNat :: (lenB b.size ++ b.data.toList)) = b.data.toList:=by rw [Nat.add_comm,List.drop_succ_cons,List.drop_left]
   rw [e1,e2,e3]
  | true =>
   rw [if_pos rfl] at h
   simp only [Bool.and_eq_true] at h
   obtain ⟨hr,hb⟩:=h
   have hb0 : b = ByteArray.empty:=by
    have : b.toList = []:=by simpa using hb
    rw [ByteArray.toList_eq] at this
    apply str_eq
    rw [this]
    rfl
   subst hb0
   have he : enc (.mk c true g ByteArray.empty ks) = UInt8.ofNat (c * 64 + g + 32).toNat :: (lenB (encs ks).length ++ encs ks):=by unfold enc; rw [if_pos rfl]
   rw [he] at hl |-
   have hu:=u8_int (c * 64 + g + 32) (by omega) (by omega)
   rw [fU,if_neg (by omega),eH _ _ _ (by omega) (by simp at hl; omega)]
   dsimp only
   have e1 : ((((UInt8.ofNat (c * 64 + g + 32).toNat).toNat / 64 : Nat)) : Int) = c:=by omega
   have e2 : ((((UInt8.ofNat (c * 64 + g + 32).toNat).toNat % 32 : Nat)) : Int) = g:=by omega
   have e3 : List.drop (1 + (lenB (encs ks).length).length) (UInt8.ofNat (c * 64 + g + 32).toNat :: (lenB (encs ks).length ++ encs ks)) = encs ks:=by rw [Nat.add_comm,List.drop_succ_cons,List.drop_left]
   rw [e1,e2,e3]
   have:=kids_enc ks d (by omega) (by omega) hr (by simp at hl; omega) (UInt8.ofNat (c * 64 + g + 32).toNat :: (lenB (encs ks).length ++ encs ks)).length (by simp; omega)
   rw [this]
theorem kids_enc : ∀ (ks : List Tl) (d : Nat),1 <= d -> d <= 16 -> Tl.rights ks (d + 1) = true -> (encs ks).length < 16777216 -> ∀ fu,(encs ks).length <= fu -> kidsOf (sub (16 - d)) fu (encs ks) = .ok ks
 | [],d,_,_,_,_,fu,_ => by unfold encs; exact kidsOf_nil _ _
 | t :: ks,d,hd,hd2,h,hl,fu,hf => by
  unfold Tl.rights at h
  simp only [Bool.and_eq_true] at h
  obtain ⟨h1,h2⟩:=h
  unfold encs at hl hf |-
  rw [List.length_append] at hl hf
  have hd3 : d <= 15:=by
   obtain ⟨c,k,g,b,ks'⟩:=t
   unfold Tl.right at h1
   by_cases hbad : 16 < d + 1 \/ c < 0 \/ 3 < c \/ g < 0 \/ 30 < g
   ·rw [if_pos hbad] at h1; cases h1
   ·omega
  obtain ⟨m,hm⟩ : ∃ m,16 - d = m + 1:=⟨15 - d,by omega⟩
  have hv:=val_enc t (d + 1) (by omega) h1 (by omega)
  have hm2 : 16 - (d + 1) = m:=by omega
  rw [hm2] at hv
  have hh:=head_enc t (d + 1) h1 (by omega) (encs ks)
  have hp:=enc_pos t
  rw [hm]
  unfold sub
  rw [kidsOf_next (val m) fu (enc t ++ encs ks) t (by rw [List.length_append]; omega) (by rw [List.length_append]; omega) (by rw [List.length_append]; omega) (by rw [hh.2,List.take_left]; exact hv)]
  rw [hh.2,List.drop_left]
  have:=kids_enc ks d hd hd2 h2 (by omega) fu (by omega)
  rw [hm] at this
  unfold sub at this
  rw [this]
  rfl
end
theorem dec_enc (t : Tl) (h : t.right 1 = true) (hl : (enc t).length <= 8192) (l : List UInt8) : dec (enc t ++ l) = (t,(enc t).length,0):=by
 have hh:=head_enc t 1 h (by omega) l
 have ht : total (enc t ++ l) = ((enc t).length,0):=by
  unfold total
  have e : (head (enc t ++ l)).1 + (head (enc t ++ l)).2.1 = (enc t).length:=hh.2
  rw [if_neg (by omega),if_neg (by omega),e]
 unfold dec
 rw [ht]
 dsimp only
 rw [if_neg (by simp),if_neg (by rw [List.length_append]; omega),List.take_left,val_enc t 1 (by omega) h (by omega)]
end PB
structure Rw where
 A : Option Addr
 n : Nat
 c : Nat
def Rw.val (r : Rw) : Value:=.slice r.A r.n r.c
def Rw.none : Rw:=⟨Option.none,0,0⟩
structure FC where
 kind : Int
 attr : ByteArray
 value : ByteArray
 first : ByteArray
 any : Rw
 last : ByteArray
 kids : Rw
def FC.zero : FC:=⟨0,⟨#[]⟩,⟨#[]⟩,⟨#[]⟩,Rw.none,⟨#[]⟩,Rw.none⟩
structure MC where
 id : Int
 op : Int
 version : Int
 name : ByteArray
 sasl : Bool
 secret : ByteArray
 kind : ByteArray
 has : Bool
 value : ByteArray
 code : Int
 text : ByteArray
 scope : Int
 deref : Int
 size : Int
 time : Int
 types : Bool
 filter : FC
 attrs : Rw
 list : Rw
 mods : Rw
 rdn : ByteArray
 old : Bool
 dest : Rw
 other : Int
 controls : Rw
namespace MC
def zero : MC:=⟨0,0,0,⟨#[]⟩,false,⟨#[]⟩,⟨#[]⟩,false,⟨#[]⟩,0,⟨#[]⟩,0,0,0,0,false,FC.zero,Rw.none,Rw.none,Rw.none,⟨#[]⟩,false,Rw.none,0,Rw.none⟩
abbrev cells (m : MC) : Array Value :=
 #[.int .i64 m.id,.int .i64 m.op,.int .i64 m.version,.string m.name,.bool m.sasl,.string m.secret,.string m.kind,.bool m.has,.string m.value,.int .i64 m.code,.string m.text,.int .i64 m.scope,.int .i64 m.deref,.int .i64 m.size,.int .i64 m.time,.bool m.types,
  .int .i64 m.filter.kind,.string m.filter.attr,.string m.filter.value,.string m.filter.first,.slice m.filter.any.A m.filter.any.n m.filter.any.c,.string m.filter.last,.slice m.filter.kids.A m.filter.kids.n m.filter.kids.c,
  .slice m.attrs.A m.attrs.n m.attrs.c,.slice m.list.A m.list.n m.list.c,.slice m.mods.A m.mods.n m.mods.c,.string m.rdn,.bool m.old,.slice m.dest.A m.dest.n m.dest.c,.int .i64 m.other,.slice m.controls.A m.controls.n m.controls.c]
def bare (m : MC) : MC :=
 let b : MC:={ m with id:=0,controls:=Rw.none,op:=0 }
 if m.op = 0 then
  if m.sasl then { b with version:=0,name:=⟨#[]⟩,sasl:=false,kind:=⟨#[]⟩,has:=false,value:=⟨#[]⟩ } else { b with version:=0,name:=⟨#[]⟩,secret:=⟨#[]⟩ }
 else if m.op = 3 then { b with name:=⟨#[]⟩,scope:=0,deref:=0,size:=0,time:=0,types:=false,filter:=FC.zero,attrs:=Rw.none }
 else if m.op = 4 \/ m.op = 8 then { b with name:=⟨#[]⟩,list:=Rw.none }
 else if m.op = 6 then { b with name:=⟨#[]⟩,mods:=Rw.none }
 else if m.op = 10 then { b with name:=⟨#[]⟩ }
 else if m.op = 12 then { b with name:=⟨#[]⟩,rdn:=⟨#[]⟩,old:=false,dest:=Rw.none }
 else if m.op = 14 then { b with name:=⟨#[]⟩,kind:=⟨#[]⟩,value:=⟨#[]⟩ }
 else if m.op = 16 then { b with other:=0 }
 else if m.op = 23 then { b with kind:=⟨#[]⟩,has:=false,value:=⟨#[]⟩ }
 else if m.op = 2 then b
 else if m.op = 24 then { b with code:=0,name:=⟨#[]⟩,text:=⟨#[]⟩,kind:=⟨#[]⟩ }
 else { b with code:=0,name:=⟨#[]⟩,text:=⟨#[]⟩ }
end MC
end Go.Proofs.YtbiglfpikfjbpaaGreatDoor
