/- Contract of ber.value: values within a value; the whole contract. -/
import Derived.Test.YtipphdadibdifaaValue
import Derived.Test.YtipphdadibdifaaKidsRow
import Derived.Test.YtipphdadibdifaaFrameCuts
import Derived.RegionDies
import Derived.Deep.RegionLaw
namespace Go.Proofs.Ytipphdadibdifaa
open Go.RowKit
open Go.PlainAid

/-- Where value's loop stands. -/
def ValAt (k : Nat) (w : World) (L : Nat) (l : List UInt8) (b0 : Nat) (rest : ByteArray) (ks : List Tl) (v : Value) (wr : World) : Prop :=
  PB.kidsOf (PB.sub k) L l = PB.pre ks (PB.kidsOf (PB.sub k) L rest.data.toList) ∧ rest.size ≤ L ∧ ks.length + rest.size ≤ L ∧
    Bk wr w.heap.size 44 (flat 0 0 ⟨#[]⟩) ∧ Bk wr (w.heap.size + 1) 44 #[.int .i64 ((b0 : Int) / 64), .bool true, .int .i64 ((b0 : Int) % 32), .string ⟨#[]⟩, v] ∧ KRow wr (w.heap.size + 2) v ks ∧ Below w.heap.size w wr

theorem valAt_start (k : Nat) (w : World) (b0 nq : Nat) (l : List UInt8) (L : Nat) (rest : ByteArray) (hr : rest.data.toList = l) (hL : rest.size ≤ L) :
    ValAt k w L l b0 rest [] (.slice none 0 0) (((w.alloc (.cells (flat 0 0 ⟨#[]⟩) 44)).drewN nq).alloc (.cells #[.int .i64 ((b0 : Int) / 64), .bool true, .int .i64 ((b0 : Int) % 32), .string ⟨#[]⟩, .slice none 0 0] 44)) := by
  refine ⟨by rw [PB.pre_nil, hr], hL, by simpa using hL, ((Bk.new w _ _).drewN nq).alloc _, ?_, KRow.nil _ _, (below_drewN ((Below.refl _ _).alloc (Nat.le_refl _) _) _).alloc (by simp) _⟩
  have h := Bk.new ((w.alloc (.cells (flat 0 0 ⟨#[]⟩) 44)).drewN nq) 44 #[.int .i64 ((b0 : Int) / 64), .bool true, .int .i64 ((b0 : Int) % 32), .string ⟨#[]⟩, .slice none 0 0]
  simpa using h

theorem valPost_err {r : Except Nat Tl} {w w' : World} {er : Nat} (h : r = .error er) (hb : Below w.heap.size w w') : ValPost r w (.panicked [{ v := .iface 72 (.int .i64 er), recovered := false }]) w' := by
  subst h
  exact ⟨hb, rfl⟩

theorem valPost_ok {r : Except Nat Tl} {w w' : World} {t : Tl} {cs : Array Value} (h : r = .ok t) (hb : Below w.heap.size w w') (ht : TlAt w' (fun b => w.heap.size ≤ b) t cs) : ValPost r w (.returned (.agg cs)) w' := by
  subst h
  exact ⟨hb, cs, rfl, ht⟩

theorem valErr_below {w wr W w4 : World} (h : Below w.heap.size w wr) (hb : Below W.heap.size W w4) (e1 : W.heap = wr.heap) (e2 : W.os = wr.os) (e3 : W.tape = wr.tape) (e4 : W.output = wr.output) : Below w.heap.size w w4 := by
  have hs := h.size
  refine ⟨hb.os.trans (e2.trans h.os), hb.tape.trans (e3.trans h.tape), hb.output.trans (e4.trans h.output), ?_, fun i hi => ?_⟩
  · have := hb.size; rw [e1] at this; omega
  · have h1 := hb.block i (by rw [e1]; omega)
    rw [e1] at h1
    exact h1.trans (h.block i hi)

theorem valAt_err {k L b0 er : Nat} {l : List UInt8} {rest : ByteArray} {ks : List Tl} {r : Except Nat Tl} (h1 : PB.kidsOf (PB.sub k) L l = PB.pre ks (PB.kidsOf (PB.sub k) L rest.data.toList))
    (hv : r = match PB.kidsOf (PB.sub k) L l with | .error e => .error e | .ok ts => .ok (.mk (b0 / 64 : Nat) true (b0 % 32 : Nat) ByteArray.empty ts)) (he : PB.kidsOf (PB.sub k) L rest.data.toList = .error er) : r = .error er := by
  rw [hv, h1, he]
  rfl

theorem tlAt_form {w : World} {S : Nat → Prop} {t : Tl} {cs : Array Value} (h : TlAt w S t cs) : ∃ (x0 : Int) (x1 : Bool) (x2 : Int) (x3 : ByteArray) (A : Option Addr) (n c : Nat), cs = #[.int .i64 x0, .bool x1, .int .i64 x2, .string x3, .slice A n c] := by
  obtain ⟨a, b, c, d, ks⟩ := t
  unfold TlAt at h
  obtain ⟨A, cap, rfl, _⟩ := h
  exact ⟨_, _, _, _, _, _, _, rfl⟩

theorem own_below {w w' : World} {B : Nat} {e : TypeId} {size n : Nat} {v : Value} {xs : List Value} (h : w.ownsRow B e size v n xs) (hb : Below w.heap.size w w') : w'.ownsRow B e size v n xs :=
  (Off.of_below hb []).own h (by simp)

theorem valAt_next {k L b0 sp gg cap5 : Nat} {l : List UInt8} {rest : ByteArray} {ks : List Tl} {v : Value} {w wr W w4 w5 : World} {t : Tl} {c0 c1 c2 c3 c4 : Value} {xs : List Value}
    (h1 : PB.kidsOf (PB.sub (k + 1)) L l = PB.pre ks (PB.kidsOf (PB.sub (k + 1)) L rest.data.toList))
    (hk : PB.kidsOf (some (PB.val k)) L rest.data.toList = PB.pre [t] (PB.kidsOf (some (PB.val k)) L (rest.data.toList.drop (PB.span rest.data.toList)))) (hsn : PB.span rest.data.toList = sp) (hsp : sp ≤ rest.size) (hpos : 2 ≤ sp)
    (g2 : rest.size ≤ L) (g3 : ks.length + rest.size ≤ L) (g4 : Bk wr w.heap.size 44 (flat 0 0 ⟨#[]⟩)) (g5 : Bk wr (w.heap.size + 1) 44 #[.int .i64 ((b0 : Int) / 64), .bool true, .int .i64 ((b0 : Int) % 32), .string ⟨#[]⟩, v])
    (g7 : Below w.heap.size w wr) (hown : wr.ownsRow (w.heap.size + 2) 44 5 v ks.length xs)
    (hall : ∀ (i : Nat) (h : i < ks.length), ∃ c0 c1 c2 c3 c4 : Value, xs[i * 5]? = some c0 ∧ xs[i * 5 + 1]? = some c1 ∧ xs[i * 5 + 2]? = some c2 ∧ xs[i * 5 + 3]? = some c3 ∧ xs[i * 5 + 4]? = some c4 ∧ TlAt wr (fun b => w.heap.size + 2 ≤ b ∧ v.ownBlock ≠ some b) ks[i] #[c0, c1, c2, c3, c4])
    (hb4 : Below W.heap.size W w4) (e1 : W.heap = wr.heap) (e2 : W.os = wr.os) (e3 : W.tape = wr.tape) (e4 : W.output = wr.output) (ht : TlAt w4 (fun b => W.heap.size ≤ b) t #[c0, c1, c2, c3, c4])
    (hown5 : w5.ownsRow (w.heap.size + 2) 44 5 (.slice (some ⟨gg, 0, none⟩) (ks.length + 1) cap5) (ks.length + 1) (xs ++ [c0, c1, c2, c3, c4])) (hgr : (w4.alloc (.cells #[c0, c1, c2, c3, c4] 44)).grownBy w5 v.ownBlock) (hat : v.ownBlock = some gg ∨ gg = w4.heap.size + 1) :
    ValAt (k + 1) w L l b0 (rest.extract sp rest.size) (ks ++ [t]) (.slice (some ⟨gg, 0, none⟩) (ks.length + 1) cap5) (w5.setCell ⟨w.heap.size + 1, 4, none⟩ (.slice (some ⟨gg, 0, none⟩) (ks.length + 1) cap5)) := by
  have hb : Below wr.heap.size wr w4 := by
    refine ⟨hb4.os.trans e2, hb4.tape.trans e3, hb4.output.trans e4, ?_, fun i hi => ?_⟩
    · have := hb4.size; rw [e1] at this; exact this
    · have := hb4.block i (by rw [e1]; exact hi); rw [e1] at this; exact this
  rw [e1] at ht
  have s1 := hb.size
  have s3 := hgr.size
  have s0 := g7.size
  have l4 := g4.lt
  have l5 := g5.lt
  have hwa : (w4.alloc (.cells #[c0, c1, c2, c3, c4] 44)).heap.size = w4.heap.size + 1 := by simp
  rw [hwa] at s3
  have hba : Below w4.heap.size w4 (w4.alloc (.cells #[c0, c1, c2, c3, c4] 44)) := (Below.refl _ _).alloc (Nat.le_refl _) _
  have hvlt := hown.lt
  have hkeep : ∀ b, b < wr.heap.size → v.ownBlock ≠ some b → w5.heap[b]? = wr.heap[b]? := fun b hb' hn =>
    (hgr.block b (by rw [hwa]; omega) (fun e => hn e.symm)).trans ((hba.block b (by omega)).trans (hb.block b hb'))
  have n4 : v.ownBlock ≠ some w.heap.size := fun e => by have := (hvlt _ e).1; omega
  have n5 : v.ownBlock ≠ some (w.heap.size + 1) := fun e => by have := (hvlt _ e).1; omega
  have hk4 : Bk w5 w.heap.size 44 (flat 0 0 ⟨#[]⟩) := (hkeep _ l4 n4).trans g4
  have hk5 : Bk w5 (w.heap.size + 1) 44 #[.int .i64 ((b0 : Int) / 64), .bool true, .int .i64 ((b0 : Int) % 32), .string ⟨#[]⟩, v] := (hkeep _ l5 n5).trans g5
  have hrow := KRow.push (by omega) hown hall hb ht hba hown5 hgr (hat.elim (fun h => Or.inl h.symm) (fun h => Or.inr (by rw [hwa, h]; rfl)))
  obtain ⟨hs1, hs2, hs3⟩ := left_split rest sp hsp
  have hdrop : (rest.extract sp rest.size).data.toList = rest.data.toList.drop sp := by
    rw [extract_list, List.take_of_length_le (by rw [List.length_drop, len_size]; omega)]
  have hsz5 : w.heap.size ≤ w5.heap.size := by omega
  refine ⟨?_, by omega, ?_, hk4.far (by simp) _, ?_, ?_, ?_⟩
  · have hsub : PB.sub (k + 1) = some (PB.val k) := rfl
    rw [h1, hsub, hk, PB.pre_pre, hdrop, hsn]
  · rw [List.length_append, List.length_singleton]
    omega
  · have := hk5.put 4 (.slice (some ⟨gg, 0, none⟩) (ks.length + 1) cap5)
    simpa using this
  · refine hrow.keep (by simp [World.setCell]) (fun b hb' hlt => ?_)
    exact Below.heap_setCell _ _ _ _ (by simp; omega)
  · refine ⟨?_, ?_, ?_, ?_, fun i hi => ?_⟩
    · exact hgr.os.trans (hba.os.trans (hb.os.trans g7.os))
    · exact hgr.tape.trans (hba.tape.trans (hb.tape.trans g7.tape))
    · exact hgr.output.trans (hba.output.trans (hb.output.trans g7.output))
    · simpa [World.setCell] using hsz5
    · rw [Below.heap_setCell _ _ _ _ (by simp; omega), hkeep i (by omega) (fun e => by have := (hvlt _ e).1; omega)]
      exact g7.block i hi

theorem valAt_ok {k L b0 : Nat} {l : List UInt8} {ks : List Tl} {r : Except Nat Tl} (h1 : PB.kidsOf (PB.sub k) L l = PB.pre ks (PB.kidsOf (PB.sub k) L (ByteArray.empty).data.toList))
    (hv : r = match PB.kidsOf (PB.sub k) L l with | .error e => .error e | .ok ts => .ok (.mk (b0 / 64 : Nat) true (b0 % 32 : Nat) ByteArray.empty ts)) : r = .ok (.mk (b0 / 64 : Nat) true (b0 % 32 : Nat) ByteArray.empty ks) := by
  have e : (ByteArray.empty).data.toList = [] := rfl
  rw [hv, h1, e, PB.kidsOf_nil]
  simp [PB.pre]

theorem tlAt_cons {w : World} {S : Nat → Prop} (b0 : Nat) (h : b0 < 256) {ks : List Tl} {A : Option Addr} {cap : Nat} (hl : ks.length ≤ maxLen) (hk : KsAt w S ks A 0) :
    TlAt w S (.mk (b0 / 64 : Nat) true (b0 % 32 : Nat) ByteArray.empty ks) #[.int .i64 ((b0 : Int) / 64), .bool true, .int .i64 ((b0 : Int) % 32), .string ⟨#[]⟩, .slice A ks.length cap] := by
  unfold TlAt
  exact ⟨A, cap, rfl, hl, WalkArith.wf_i64 (by omega), WalkArith.wf_i64 (by omega), Nat.zero_le _, hk⟩

theorem kids_cells {w W : World} {ks : List Tl} {A : Option Addr} {v0 v1 v2 v3 v4 : Value} (h : KsAt W (fun b => w.heap.size + 2 ≤ b) ks A 0) :
    KsAt (((((W.setCell ⟨w.heap.size, 0, none⟩ v0).setCell ⟨w.heap.size, 1, none⟩ v1).setCell ⟨w.heap.size, 2, none⟩ v2).setCell ⟨w.heap.size, 3, none⟩ v3).setCell ⟨w.heap.size, 4, none⟩ v4) (fun b => w.heap.size ≤ b) ks A 0 := by
  refine KsAt.keep (by simp [World.setCell]) (fun b hb _ => ?_) (fun b hb _ => by omega) ks A 0 h
  rw [Below.heap_setCell _ _ _ _ (by simp; omega), Below.heap_setCell _ _ _ _ (by simp; omega), Below.heap_setCell _ _ _ _ (by simp; omega), Below.heap_setCell _ _ _ _ (by simp; omega), Below.heap_setCell _ _ _ _ (by simp; omega)]

theorem two_alloc {w4 : World} {b o : Nat} {v : Value} (h1 : w4.cell? ⟨b, o, none⟩ = some v) (h2 : w4.frozen? ⟨b, o, none⟩ = false) (hlt : b < w4.heap.size) : ∀ x : Obj, (w4.alloc x).cell? ⟨b, o, none⟩ = some v ∧ (w4.alloc x).frozen? ⟨b, o, none⟩ = false :=
  fun x => ⟨(World.cell?_of_block (a := ⟨b, o, none⟩) (Below.heap_alloc w4 x b hlt)).trans h1, (World.frozen?_of_block (a := ⟨b, o, none⟩) (Below.heap_alloc w4 x b hlt)).trans h2⟩

theorem two_grown {w w5 : World} {b o : Nat} {v : Value} {row : Option Nat} (h : w.cell? ⟨b, o, none⟩ = some v ∧ w.frozen? ⟨b, o, none⟩ = false) (hg : w.grownBy w5 row) (hne : row ≠ some b) (hlt : b < w.heap.size) : w5.cell? ⟨b, o, none⟩ = some v ∧ w5.frozen? ⟨b, o, none⟩ = false :=
  ⟨(World.cell?_of_block (a := ⟨b, o, none⟩) (hg.block b hlt (fun e => hne e.symm))).trans h.1, (World.frozen?_of_block (a := ⟨b, o, none⟩) (hg.block b hlt (fun e => hne e.symm))).trans h.2⟩

set_option maxRecDepth 100000 in
set_option maxHeartbeats 2000000 in
theorem value_cons (s : ByteArray) (d k : Nat) (w : World) (hd : d + k = 16) (hs : s.size ≤ 8192) (h : ¬ ((PB.head s.data.toList).2.2 ≠ 0 ∨ PB.span s.data.toList ≠ s.size)) (hc : ¬ PB.byt s.data.toList 0 / 32 % 2 = 0)
    (ih : ∀ k', k = k' + 1 → ∀ (s : ByteArray) (d : Nat) (w : World), d + k' = 16 → s.size ≤ 8192 → Calls Try.prog 40 #[.string s, .int .i64 d] w (ValPost (PB.val k' s.data.toList) w)) :
    Calls Try.prog 40 #[.string s, .int .i64 d] w (ValPost (PB.val k s.data.toList) w) := by
  obtain ⟨i0, hi, hz0, hz1, hz2⟩ := info_parts info_tlv
  have hl := PB.head_le s.data.toList
  have hv : PB.val k s.data.toList = match PB.kidsOf (PB.sub k) s.size (s.data.toList.drop (PB.head s.data.toList).1) with
      | .error e => .error e
      | .ok ts => .ok (.mk (PB.byt s.data.toList 0 / 64 : Nat) true (PB.byt s.data.toList 0 % 32 : Nat) ByteArray.empty ts) := by
    rw [PB.val_eq]
    unfold PB.valOf
    rw [len_size, if_neg h, if_neg hc]
    cases PB.kidsOf (PB.sub k) s.size (s.data.toList.drop (PB.head s.data.toList).1) <;> rfl
  have hft := PB.head_fits s.data.toList (by omega)
  rw [len_size] at hft
  unfold PB.span at h
  have HH := Lib.hid fun W : World => head_any s W (by unfold maxLen; omega)
  have h0 : 0 < s.size := by omega
  have hg := get_bt s 0 h0
  have tb := byt_bt s 0
  have hb0 := PB.byt_lt s.data.toList 0
  rw [tb] at hg
  generalize PB.byt s.data.toList 0 = b0 at *
  generalize PB.head s.data.toList = p at hl HH h hft hv
  obtain ⟨a, n, er⟩ := p
  dsimp only at hl HH h hft hv
  obtain ⟨hl1, hl2⟩ := hl
  obtain rfl : er = 0 := by omega
  have h2 : ((n : Int) != (s.size : Int) - a) = false := by simp; omega
  have e1 := u8_and31 (b0 : Int) (by omega) (by omega)
  have e2 : (bits BinOp.and IntKind.u8 (b0 : Int) 32 != 0) = true := by
    rw [u8_and32 b0 hb0, show b0 / 32 % 2 = 1 by omega]
    decide
  have hrs : (s.extract a s.size).data.toList = s.data.toList.drop a := by rw [extract_list, List.take_of_length_le (by rw [List.length_drop, len_size]; omega)]
  have hrz : (s.extract a s.size).size ≤ s.size := by rw [ByteArray.size_extract]; omega
  have HRS := Lib.hid hrs
  have HV := Lib.hid hv
  have IH := Lib.hid ih
  clear hv tb h hc hrs ih
  go_enter Try.func40, Try.ntmps40
  go_wp2_with (go_at_call 42; refine (HH.out _).mono ?_; rintro e w' ⟨rfl, nq, rfl⟩)
  go_region
  go_wp2_with fail
  have hstart := valAt_start k w b0 (nq + 1) _ s.size _ HRS.out hrz
  go_loopw [9] (fun x wr => ∃ (rest : ByteArray) (ks : List Tl) (v : Value), x = .string rest ∧ ValAt k w s.size (s.data.toList.drop a) b0 rest ks v wr) (fun x _ => strLen x)
  case atStart => exact ⟨_, [], _, rfl, hstart⟩
  case round =>
    clear hstart
    obtain ⟨rest, ks, v, rfl, hat⟩ := hrel
    obtain ⟨g1, g2, g3, g4, g5, g6, g7⟩ := hat
    have G1 := Lib.hid g1
    clear g1
    have hws := g7.size
    obtain ⟨z0, z1, z2, z3, z4⟩ := g4.five
    obtain ⟨y0, y1, y2, y3, y4⟩ := g5.five
    have fz0 := g4.frozen 0
    have fz1 := g4.frozen 1
    have fz2 := g4.frozen 2
    have fz3 := g4.frozen 3
    have fz4 := g4.frozen 4
    have fy4 := g5.frozen 4
    by_cases hr0 : rest.size = 0
    · obtain rfl : rest = ByteArray.empty := by simpa [ByteArray.size_eq_zero_iff] using hr0
      obtain ⟨A, cap, rfl, hkl, hkids⟩ := g6.kids
      have HVO := Lib.hid (valAt_ok G1.out HV.out)
      have HKD := Lib.hid hkids
      clear hkids g6
      go_wp2_with fail
      refine bodyPost_ret (v := .agg #[.int .i64 ((b0 : Int) / 64), .bool true, .int .i64 ((b0 : Int) % 32), .string ⟨#[]⟩, .slice A ks.length cap]) ?_ rfl (valPost_ok HVO.out ?_ ?_)
      · simp [results, Try.results40, go_sem, z0, z1, z2, z3, z4]
      · exact below_cells g7 _ _ _ _ _
      · exact tlAt_cons b0 hb0 hkl (kids_cells HKD.out)
    · have hne := nonempty (s := rest) (by omega)
      have hpos : 0 < rest.size := by omega
      cases k with
      | zero =>
        have t16 : decide ((16 : Int) ≤ d) = true := by simp; omega
        have HVE := Lib.hid (valAt_err G1.out HV.out (PB.kidsOf_deep s.size rest.data.toList (by rw [len_size]; omega) (by rw [len_size]; omega)))
        go_wp2_with fail
        exact ⟨rfl, valPost_err HVE.out g7⟩
      | succ k =>
        have t16 : decide ((16 : Int) ≤ d) = false := by simp; omega
        by_cases hb : (PB.head rest.data.toList).2.2 ≠ 0 ∨ rest.size < PB.span rest.data.toList
        · have HW := Lib.hid fun W : World => whole_no rest W (by omega) hb
          have HVE := Lib.hid (valAt_err G1.out HV.out (PB.kidsOf_form (PB.val k) s.size rest.data.toList (by rw [len_size]; omega) (by rw [len_size]; omega) (by rw [len_size]; exact hb)))
          go_wp2_with (go_at_call 49; refine (HW.out _).mono ?_; rintro e w3 ⟨hthr, n3, rfl⟩; unfold Throws at hthr; subst hthr)
          exact ⟨rfl, valPost_err HVE.out (below_drewN g7 _)⟩
        · have HW := Lib.hid fun W : World => whole_yes rest W (by omega) hb
          have hsp : PB.span rest.data.toList ≤ rest.size := by omega
          have hsp0 : 2 ≤ PB.span rest.data.toList := PB.span_pos _ (by omega)
          generalize hsn : PB.span rest.data.toList = sp at HW hsp hsp0
          have HSN := Lib.hid hsn
          clear hsn
          have hpz : (rest.extract 0 sp).size ≤ 8192 := by rw [ByteArray.size_extract]; omega
          have HC := Lib.hid fun W : World => IH.out k rfl (rest.extract 0 sp) (d + 1) W (by omega) hpz
          rw [Int.natCast_add] at HC
          cases hval : PB.val k (rest.extract 0 sp).data.toList with
          | error er =>
            have HC2 := Lib.hid fun W : World => (show Calls Try.prog 40 #[.string (rest.extract 0 sp), .int .i64 ((d : Int) + 1)] W (ValPost (.error er) W) by rw [← hval]; exact HC.out W)
            have HVE := Lib.hid (valAt_err G1.out HV.out (PB.kidsOf_err (PB.val k) s.size rest.data.toList er (by rw [len_size]; omega) (by rw [len_size]; omega) (by rw [len_size, HSN.out]; omega) (by rw [HSN.out, ← hval, extract_list]; simp)))
            clear hval HC
            go_upto_region 13 with (go_at_call 49; refine (HW.out _).mono ?_; rintro e w3 ⟨rfl, n3, rfl⟩)
            have hwrap : IntKind.i64.wrap ((d : Int) + 1) = (d : Int) + 1 := IntWalk.i64_in _ (by omega)
            go_region_dies
            all_goals
              refine (HC2.out _).mono ?_
              rintro e w4 ⟨hb4, hthr⟩
              unfold Throws at hthr
              subst hthr
              exact ⟨rfl, valPost_err HVE.out (valErr_below g7 hb4 rfl rfl rfl rfl)⟩
          | ok t =>
            have HC2 := Lib.hid fun W : World => (show Calls Try.prog 40 #[.string (rest.extract 0 sp), .int .i64 ((d : Int) + 1)] W (ValPost (.ok t) W) by rw [← hval]; exact HC.out W)
            have HKN := Lib.hid (PB.kidsOf_next (PB.val k) s.size rest.data.toList t (by rw [len_size]; omega) (by rw [len_size]; omega) (by rw [len_size, HSN.out]; omega) (by rw [HSN.out, ← hval, extract_list]; simp))
            obtain ⟨xs, hown, hall⟩ := g6
            have HALL := Lib.hid hall
            have hlt1 := g5.lt
            have hvne : v.ownBlock ≠ some (w.heap.size + 1) := fun e => by have := (hown.lt _ e).1; omega
            clear hval HC hall
            go_upto_region 13 with (go_at_call 49; refine (HW.out _).mono ?_; rintro e w3 ⟨rfl, n3, rfl⟩)
            have hwrap : IntKind.i64.wrap ((d : Int) + 1) = (d : Int) + 1 := IntWalk.i64_in _ (by omega)
            have hdw : ∀ m : Nat, (wr.drewN m).heap.size = wr.heap.size := fun _ => rfl
            go_region_law ((first
                | (refine step_append_lies _ (by rfl) _ _ _ (by rfl) (w.heap.size + 2) 44 i0 _ 5 64 Try.underlying42 hi hz0 hz1 hz2 rfl (by omega) v ks.length xs (by rfl) (hown4.alloc _) ⟨w4.heap.size, 0, none⟩ 1 1 [.int .i64 x0, .bool x1, .int .i64 x2, .string x3, .slice xA xn xc] (by rfl) (by rfl) (World.news_of_block (cs := #[.int .i64 x0, .bool x1, .int .i64 x2, .string x3, .slice xA xn xc]) (t := 44) (fr := (0, 0)) (heap_alloc_new w4 _)) (by simp [Value.oneCell']) (by omega) (by unfold maxLen; omega) (by omega) (by simp; omega) (w4.heap.size + 1) (by simp) ?_; intro gg cap5 w5 hown5 hgrow5 hat5 hlt5; have hkg := two_grown (hka _) hgrow5 hvne (show w.heap.size + 1 < (w4.alloc _).heap.size by simp; omega); have hkg1 := hkg.1; have hkg2 := hkg.2)
                | (go_simp; go_at_call 40; refine (HC2.out _).mono ?_; rintro e w4 ⟨hb4, cs, rfl, ht⟩; obtain ⟨x0, x1, x2, x3, xA, xn, xc, rfl⟩ := tlAt_form ht; have hk1 := (hb4.cell (p := ⟨w.heap.size + 1, 4, none⟩) hlt1).trans y4; have hk2 := (hb4.frozen (p := ⟨w.heap.size + 1, 4, none⟩) hlt1).trans fy4; have hown4 := own_below (w := wr.drewN (n3 + 1)) hown hb4; have hsz4 := hb4.size; rw [hdw] at hsz4; have hka := two_alloc hk1 hk2 (show w.heap.size + 1 < w4.heap.size by omega); have hka1 := fun o => (hka o).1; have hka2 := fun o => (hka o).2)
                | fail))
            all_goals
              clear hwrap
              go_wp2_with fail
              have hnx := valAt_next (sp := sp) G1.out HKN.out HSN.out hsp hsp0 g2 g3 g4 g5 g7 hown HALL.out hb4 rfl rfl rfl rfl ht hown5 hgrow5 hat5
              have hms := (left_split rest sp hsp).2.2
              go_roundw
              case rel => exact ⟨_, _, _, rfl, hnx⟩
              case measure =>
                simp only [strLen]
                omega

theorem value_any (k : Nat) : ∀ (s : ByteArray) (d : Nat) (w : World), d + k = 16 → s.size ≤ 8192 → Calls Try.prog 40 #[.string s, .int .i64 d] w (ValPost (PB.val k s.data.toList) w) := by
  induction k with
  | zero =>
    intro s d w hd hs
    by_cases h : (PB.head s.data.toList).2.2 ≠ 0 ∨ PB.span s.data.toList ≠ s.size
    · exact value_no s d 0 w (by omega) h
    by_cases hc : PB.byt s.data.toList 0 / 32 % 2 = 0
    · exact value_prim s d 0 w (by omega) h hc
    · exact value_cons s d 0 w hd hs h hc (fun k' e => by omega)
  | succ k ih =>
    intro s d w hd hs
    by_cases h : (PB.head s.data.toList).2.2 ≠ 0 ∨ PB.span s.data.toList ≠ s.size
    · exact value_no s d (k + 1) w (by omega) h
    by_cases hc : PB.byt s.data.toList 0 / 32 % 2 = 0
    · exact value_prim s d (k + 1) w (by omega) h hc
    · exact value_cons s d (k + 1) w hd hs h hc (fun k' e => by cases e; exact ih)

end Go.Proofs.Ytipphdadibdifaa
