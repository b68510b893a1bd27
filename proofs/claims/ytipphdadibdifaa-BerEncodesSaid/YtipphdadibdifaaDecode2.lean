/- Contract of ber.Decode, part two: the walk. -/
import Derived.Test.YtipphdadibdifaaDecode
import Derived.Test.YtipphdadibdifaaValue2
import Derived.Defers
import Derived.Recover
import Derived.Laws.Pointers
namespace Go.Proofs.Ytipphdadibdifaa
open Go.RowKit
open Go.PlainAid

namespace PB
/-- What bytes begin with: the tree, how many bytes, the error's number. -/
def dec (l : List UInt8) : Tl × Nat × Nat :=
  if (total l).2 ≠ 0 then (.mk 0 false 0 ByteArray.empty [], 0, (total l).2) else
  if l.length < (total l).1 then (.mk 0 false 0 ByteArray.empty [], 0, 3) else
  match val 15 (l.take (total l).1) with
  | .ok t => (t, (total l).1, 0)
  | .error e => (.mk 0 false 0 ByteArray.empty [], 0, e)
end PB

def DecPost (r : Tl × Nat × Nat) (w : World) (e : Ending) (w' : World) : Prop :=
  Below w.heap.size w w' ∧ ∃ cs, e = .returned (.tuple #[.agg cs, .int .i64 r.2.1, .int .i64 r.2.2]) ∧ TlAt w' (fun b => w.heap.size ≤ b) r.1 cs

theorem tlAt_zero {w : World} {S : Nat → Prop} : TlAt w S (.mk 0 false 0 ByteArray.empty []) (flat 0 0 ⟨#[]⟩) := by
  unfold TlAt
  exact ⟨none, 0, rfl, Nat.zero_le _, by decide, by decide, by decide, by unfold KsAt; trivial⟩

/-- The world of Decode's three results. -/
def opened (w : World) (c0 : Array Value) : World := ((w.alloc (.cells c0 44)).alloc (.cells #[.int .i64 0] 3)).alloc (.cells #[.int .i64 0] 30)

theorem opened_below (w : World) (c0 : Array Value) : Below w.heap.size w (opened w c0) :=
  (((Below.refl _ _).alloc (Nat.le_refl _) _).alloc (by simp) _).alloc (by simp; omega) _

theorem opened_three (w : World) (c0 : Array Value) : Three (opened w c0) w.heap.size c0 0 0 := by
  refine ⟨?_, ?_, ?_⟩
  · exact ((Bk.new w _ c0).alloc _).alloc _
  · have := (Bk.new (w.alloc (.cells c0 44)) 3 #[.int .i64 0]).alloc (.cells #[.int .i64 0] 30)
    simpa [opened] using this
  · have := Bk.new ((w.alloc (.cells c0 44)).alloc (.cells #[.int .i64 0] 3)) 30 #[.int .i64 0]
    simpa [opened] using this

theorem three_er {w : World} {b : Nat} {cs : Array Value} {n e0 : Int} (h : Three w b cs n e0) (er : Int) :
    Three (w.setCell ⟨b + 1 + 1, 0, none⟩ (.int .i64 er)) b cs n er := by
  obtain ⟨h0, h1, h2⟩ := h
  refine ⟨?_, ?_, ?_⟩
  · exact h0.far (p := ⟨b + 1 + 1, 0, none⟩) (by simp; omega) _
  · exact h1.far (p := ⟨b + 1 + 1, 0, none⟩) (by simp) (.int .i64 er)
  · simpa using h2.put 0 (.int .i64 er)

theorem three_puts {w : World} {b : Nat} {c0 c1 c2 c3 c4 : Value} {n e0 : Int} (h : Three w b #[c0, c1, c2, c3, c4] n e0) (v0 v1 v2 v3 v4 : Value) (m er : Int) :
    Three (((((((w.setCell ⟨b, 0, none⟩ v0).setCell ⟨b, 1, none⟩ v1).setCell ⟨b, 2, none⟩ v2).setCell ⟨b, 3, none⟩ v3).setCell ⟨b, 4, none⟩ v4).setCell ⟨b + 1, 0, none⟩ (.int .i64 m)).setCell ⟨b + 2, 0, none⟩ (.int .i64 er)) b #[v0, v1, v2, v3, v4] m er ∧
    Off [b, b + 1, b + 2] w (((((((w.setCell ⟨b, 0, none⟩ v0).setCell ⟨b, 1, none⟩ v1).setCell ⟨b, 2, none⟩ v2).setCell ⟨b, 3, none⟩ v3).setCell ⟨b, 4, none⟩ v4).setCell ⟨b + 1, 0, none⟩ (.int .i64 m)).setCell ⟨b + 2, 0, none⟩ (.int .i64 er)) := by
  obtain ⟨h0, h1, h2⟩ := h
  refine ⟨⟨?_, ?_, ?_⟩, ?_⟩
  · have := ((((((h0.put 0 v0).put 1 v1).put 2 v2).put 3 v3).put 4 v4).far (p := ⟨b + 1, 0, none⟩) (by simp) (.int .i64 m)).far (p := ⟨b + 2, 0, none⟩) (by simp) (.int .i64 er)
    simpa using this
  · have := ((((((h1.far (p := ⟨b, 0, none⟩) (by simp) v0).far (p := ⟨b, 1, none⟩) (by simp) v1).far (p := ⟨b, 2, none⟩) (by simp) v2).far (p := ⟨b, 3, none⟩) (by simp) v3).far (p := ⟨b, 4, none⟩) (by simp) v4).put 0 (.int .i64 m)).far (p := ⟨b + 2, 0, none⟩) (by simp) (.int .i64 er)
    simpa using this
  · have := ((((((h2.far (p := ⟨b, 0, none⟩) (by simp) v0).far (p := ⟨b, 1, none⟩) (by simp) v1).far (p := ⟨b, 2, none⟩) (by simp) v2).far (p := ⟨b, 3, none⟩) (by simp) v3).far (p := ⟨b, 4, none⟩) (by simp) v4).far (p := ⟨b + 1, 0, none⟩) (by simp) (.int .i64 m)).put 0 (.int .i64 er)
    simpa using this
  · exact (((((((Off.refl _ _).setCell (Or.inl (by simp)) _).setCell (Or.inl (by simp)) _).setCell (Or.inl (by simp)) _).setCell (Or.inl (by simp)) _).setCell (Or.inl (by simp)) _).setCell (Or.inl (by simp)) _).setCell (Or.inl (by simp)) _

theorem dec_tlAt {w W w4 w5 : World} {c0 cs : Array Value} {n e0 : Int} {t : Tl} (h : Below w.heap.size w W) (h3 : Three W w.heap.size c0 n e0) (ht : TlAt w4 (fun b => W.heap.size ≤ b) t cs) (h5 : Off [w.heap.size, w.heap.size + 1, w.heap.size + 2] w4 w5) : TlAt w5 (fun b => w.heap.size ≤ b) t cs := by
  have hlt := h3.2.2.lt
  have hsz := h.size
  refine TlAt.keep h5.size (fun b hS hl => h5.block b hl ?_) (fun b hS _ => ?_) t cs ht
  · intro hm
    simp at hm
    omega
  · exact Nat.le_trans hsz hS

/-- Three stores of the length's answer. -/
theorem three_two {w : World} {b : Nat} {cs : Array Value} {n e0 : Int} (h : Three w b cs n e0) (m er : Int) :
    Three ((w.setCell ⟨b + 1, 0, none⟩ (.int .i64 m)).setCell ⟨b + 1 + 1, 0, none⟩ (.int .i64 er)) b cs m er := by
  obtain ⟨h0, h1, h2⟩ := h
  refine ⟨?_, ?_, ?_⟩
  · exact (h0.far (p := ⟨b + 1, 0, none⟩) (by simp) _).far (p := ⟨b + 1 + 1, 0, none⟩) (by simp; omega) _
  · simpa using (h1.put 0 (.int .i64 m)).far (p := ⟨b + 1 + 1, 0, none⟩) (by simp) (.int .i64 er)
  · simpa using (h2.far (p := ⟨b + 1, 0, none⟩) (by simp) (.int .i64 m)).put 0 (.int .i64 er)

theorem Three.drewN {w : World} {b : Nat} {cs : Array Value} {n e0 : Int} (h : Three w b cs n e0) (m : Nat) : Three (w.drewN m) b cs n e0 := h

theorem dec_results {tm : Array Value} {w : World} {b : Nat} {c0 c1 c2 c3 c4 : Value} {n er : Int} (h2 : tm[2]? = some (.pointer (some ⟨b, 0, none⟩))) (h3 : tm[3]? = some (.pointer (some ⟨b + 1, 0, none⟩))) (h4 : tm[4]? = some (.pointer (some ⟨b + 2, 0, none⟩)))
    (h : Three w b #[c0, c1, c2, c3, c4] n er) : Sem.run Try.prog (results Try.f29 tm) w = .ok (.tuple #[.agg #[c0, c1, c2, c3, c4], .int .i64 n, .int .i64 er]) w := by
  obtain ⟨k0, k1, k2⟩ := h
  obtain ⟨z0, z1, z2, z3, z4⟩ := k0.five
  have y := k1.cell 0
  have x := k2.cell 0
  simp at x y
  simp [results, Try.results29, go_sem, h2, h3, h4, z0, z1, z2, z3, z4, x, y]

theorem Three.below {w w' : World} {b : Nat} {cs : Array Value} {n e0 : Int} (h : Three w b cs n e0) (hb : Below w.heap.size w w') : Three w' b cs n e0 :=
  ⟨(Off.of_below hb []).bk h.1 (by simp), (Off.of_below hb []).bk h.2.1 (by simp), (Off.of_below hb []).bk h.2.2 (by simp)⟩

theorem dec_below {w W w4 w5 : World} (h : Below w.heap.size w W) (h4 : Below W.heap.size W w4) (h5 : Off [w.heap.size, w.heap.size + 1, w.heap.size + 2] w4 w5) : Below w.heap.size w w5 := by
  have h6 := h5.below (B := w.heap.size) (Nat.le_trans h.size h4.size) (by intro g hg; simp at hg; omega)
  exact (h.trans (h4.mono h.size)).trans h6

set_option maxRecDepth 100000 in
theorem decode_err (s : ByteArray) (w : World) (hs : s.size ≤ 1000000) (h : (PB.total s.data.toList).2 ≠ 0) :
    Calls Try.prog 29 #[.string s] w (DecPost (PB.dec s.data.toList) w) := by
  have hd : PB.dec s.data.toList = (.mk 0 false 0 ByteArray.empty [], 0, (PB.total s.data.toList).2) := by unfold PB.dec; rw [if_pos h]
  rw [hd]
  have HL := Lib.hid fun W : World => length_any s W (by unfold maxLen; omega)
  clear hd
  generalize PB.total s.data.toList = p at HL h
  obtain ⟨n, er⟩ := p
  dsimp only at HL h ⊢
  have t1 : ((er : Int) == 0) = false := by simp; omega
  have t2 : ((er : Int) != 0) = true := by simp; omega
  have hmf : ∀ (fn : Fn) (first cap : Array Value) (w : World), (Instr.makeFunc fn first cap).run Try.prog w = .ok (.func fn first cap) w := fun _ _ _ _ => rfl
  go_enter_defers Try.func29, Try.ntmps29
  go_wp2_with (go_at_call 32; refine (HL.out _).mono ?_; rintro e w' ⟨rfl, nq, rfl⟩)
  go_region
  go_wp2_with fail
  have ho := three_two (Three.drewN (opened_three w #[.int .i64 0, .bool false, .int .i64 0, .string ⟨#[]⟩, .slice none 0 0]) nq) n er
  have hz := three_put ho 0 er
  have hb : Below w.heap.size w (((opened w #[.int .i64 0, .bool false, .int .i64 0, .string ⟨#[]⟩, .slice none 0 0]).drewN nq).setCell ⟨w.heap.size + 1, 0, none⟩ (.int .i64 n) |>.setCell ⟨w.heap.size + 1 + 1, 0, none⟩ (.int .i64 er)) := ((below_drewN (opened_below w _) _).setCell (by simp) _).setCell (by simp; omega) _
  refine ⟨_, dec_results rfl rfl rfl hz.1.drew, ?_, _, rfl, tlAt_zero⟩
  exact (((below_cells hb _ _ _ _ _).setCell (by simp) _).setCell (by simp; omega) _).drew

set_option maxRecDepth 100000 in
theorem decode_short (s : ByteArray) (w : World) (hs : s.size ≤ 1000000) (h : (PB.total s.data.toList).2 = 0) (hn : s.size < (PB.total s.data.toList).1) :
    Calls Try.prog 29 #[.string s] w (DecPost (PB.dec s.data.toList) w) := by
  have hd : PB.dec s.data.toList = (.mk 0 false 0 ByteArray.empty [], 0, 3) := by unfold PB.dec; rw [if_neg (by omega), len_size, if_pos hn]
  rw [hd]
  have HL := Lib.hid fun W : World => length_any s W (by unfold maxLen; omega)
  clear hd
  generalize PB.total s.data.toList = p at HL h hn
  obtain ⟨n, er⟩ := p
  dsimp only at HL h hn ⊢
  subst h
  have HL := Lib.hid (show ∀ W : World, Calls Try.prog 32 #[.string s] W (Tells2 (n : Int) 0 W) from HL.out)
  have t1 : decide ((s.size : Int) < n) = true := by simp; omega
  have t2 : s.size < n := hn
  have hmf : ∀ (fn : Fn) (first cap : Array Value) (w : World), (Instr.makeFunc fn first cap).run Try.prog w = .ok (.func fn first cap) w := fun _ _ _ _ => rfl
  go_enter_defers Try.func29, Try.ntmps29
  go_upto_region 4 with (go_at_call 32; refine (HL.out _).mono ?_; rintro e w' ⟨rfl, nq, rfl⟩)
  have ho := three_two (Three.drewN (opened_three w #[.int .i64 0, .bool false, .int .i64 0, .string ⟨#[]⟩, .slice none 0 0]) nq) n 0
  have ho1 := three_er ho 3
  have hz := Lib.hid (three_put ho1 0 3)
  have hx : World.cell? _ ⟨w.heap.size + 1 + 1, 0, none⟩ = some (.int .i64 3) := ho1.2.2.cell 0
  unfold opened at hx
  clear ho ho1
  go_wp2_with fail
  go_region
  go_wp2_with fail
  clear hx
  have hb : Below w.heap.size w (((opened w #[.int .i64 0, .bool false, .int .i64 0, .string ⟨#[]⟩, .slice none 0 0]).drewN nq).setCell ⟨w.heap.size + 1, 0, none⟩ (.int .i64 n) |>.setCell ⟨w.heap.size + 1 + 1, 0, none⟩ (.int .i64 0) |>.setCell ⟨w.heap.size + 1 + 1, 0, none⟩ (.int .i64 3)) := (((below_drewN (opened_below w _) _).setCell (by simp) _).setCell (by simp; omega) _).setCell (by simp; omega) _
  refine ⟨_, dec_results rfl rfl rfl hz.out.1.drew, ?_, _, rfl, tlAt_zero⟩
  exact (((below_cells hb _ _ _ _ _).setCell (by simp) _).setCell (by simp; omega) _).drew

set_option maxRecDepth 100000 in
set_option maxHeartbeats 4000000 in
theorem decode_val (s : ByteArray) (w : World) (hs : s.size ≤ 1000000) (h : (PB.total s.data.toList).2 = 0) (hn : ¬ s.size < (PB.total s.data.toList).1) :
    Calls Try.prog 29 #[.string s] w (DecPost (PB.dec s.data.toList) w) := by
  have hd : PB.dec s.data.toList = (match PB.val 15 (s.data.toList.take (PB.total s.data.toList).1) with | .ok t => (t, (PB.total s.data.toList).1, 0) | .error e => (.mk 0 false 0 ByteArray.empty [], 0, e)) := by unfold PB.dec; rw [if_neg (by omega), len_size, if_neg hn]
  rw [hd]
  have HL := Lib.hid fun W : World => length_any s W (by unfold maxLen; omega)
  have hcap : (PB.total s.data.toList).1 ≤ 8192 := by
    unfold PB.total
    split
    · exact Nat.zero_le _
    · split
      · exact Nat.zero_le _
      · dsimp only; omega
  clear hd
  generalize PB.total s.data.toList = p at HL h hn hcap
  obtain ⟨n, er⟩ := p
  dsimp only at HL h hn hcap ⊢
  subst h
  have HL := Lib.hid (show ∀ W : World, Calls Try.prog 32 #[.string s] W (Tells2 (n : Int) 0 W) from HL.out)
  have t1 : decide ((s.size : Int) < n) = false := by simp; omega
  have t2 : n ≤ s.size := by omega
  have hpz : (s.extract 0 n).size ≤ 8192 := by rw [ByteArray.size_extract]; omega
  have hex : s.data.toList.take n = (s.extract 0 n).data.toList := by rw [extract_list]; simp
  rw [hex]
  have HC := fun W : World => value_any 15 (s.extract 0 n) 1 W rfl hpz
  clear hex hn hs
  have hmf : ∀ (fn : Fn) (first cap : Array Value) (w : World), (Instr.makeFunc fn first cap).run Try.prog w = .ok (.func fn first cap) w := fun _ _ _ _ => rfl
  cases hval : PB.val 15 (s.extract 0 n).data.toList with
  | error er =>
    rw [hval] at HC
    have HC2 := Lib.hid HC
    clear HC hval
    dsimp only
    go_enter_defers Try.func29, Try.ntmps29
    go_upto_region 7 with (go_at_call 32; refine (HL.out _).mono ?_; rintro e w' ⟨rfl, nq, rfl⟩)
    have h3 := three_two (Three.drewN (opened_three w #[.int .i64 0, .bool false, .int .i64 0, .string ⟨#[]⟩, .slice none 0 0]) nq) n 0
    have hb : Below w.heap.size w (((opened w #[.int .i64 0, .bool false, .int .i64 0, .string ⟨#[]⟩, .slice none 0 0]).drewN nq).setCell ⟨w.heap.size + 1, 0, none⟩ (.int .i64 n) |>.setCell ⟨w.heap.size + 1 + 1, 0, none⟩ (.int .i64 0)) := ((below_drewN (opened_below w _) _).setCell (by simp) _).setCell (by simp; omega) _
    unfold opened at h3 hb
    generalize hW : ((((((w.alloc (.cells #[.int .i64 0, .bool false, .int .i64 0, .string ⟨#[]⟩, .slice none 0 0] 44)).alloc (.cells #[.int .i64 0] 3)).alloc (.cells #[.int .i64 0] 30)).drewN nq).setCell ⟨w.heap.size + 1, 0, none⟩ (.int .i64 n)).setCell ⟨w.heap.size + 1 + 1, 0, none⟩ (.int .i64 0)) = W at *
    clear hW
    have y : W.cell? ⟨w.heap.size + 1, 0, none⟩ = some (.int .i64 n) := h3.2.1.cell 0
    have H3 := Lib.hid h3
    have HB := Lib.hid hb
    clear h3 hb
    first | go_region_dies | fail
    all_goals
      refine (HC2.out _).mono ?_
      rintro e w4 ⟨hb4, hthr⟩
      unfold Throws at hthr
      subst hthr
      have h4 := H3.out.drew.below hb4
      refine leaves_cons (f := 39) (args := #[.pointer (some ⟨w.heap.size, 0, none⟩), .pointer (some ⟨w.heap.size + 1, 0, none⟩), .pointer (some ⟨w.heap.size + 2, 0, none⟩)]) (by simp) (by simp [go_sem]) ?_
      refine (decode_catch w.heap.size _ _ _ _ _ n 0 er _ h4).mono ?_
      rintro e u' w5 ⟨rfl, rfl, h5, off5⟩
      refine ⟨_, dec_results rfl rfl rfl h5, ?_, _, rfl, tlAt_zero⟩
      exact dec_below HB.out.drew hb4 off5
  | ok t =>
    rw [hval] at HC
    have HC2 := Lib.hid HC
    clear HC hval
    dsimp only
    go_enter_defers Try.func29, Try.ntmps29
    go_upto_region 7 with (go_at_call 32; refine (HL.out _).mono ?_; rintro e w' ⟨rfl, nq, rfl⟩)
    have h3 := three_two (Three.drewN (opened_three w #[.int .i64 0, .bool false, .int .i64 0, .string ⟨#[]⟩, .slice none 0 0]) nq) n 0
    have hb : Below w.heap.size w (((opened w #[.int .i64 0, .bool false, .int .i64 0, .string ⟨#[]⟩, .slice none 0 0]).drewN nq).setCell ⟨w.heap.size + 1, 0, none⟩ (.int .i64 n) |>.setCell ⟨w.heap.size + 1 + 1, 0, none⟩ (.int .i64 0)) := ((below_drewN (opened_below w _) _).setCell (by simp) _).setCell (by simp; omega) _
    unfold opened at h3 hb
    generalize hW : ((((((w.alloc (.cells #[.int .i64 0, .bool false, .int .i64 0, .string ⟨#[]⟩, .slice none 0 0] 44)).alloc (.cells #[.int .i64 0] 3)).alloc (.cells #[.int .i64 0] 30)).drewN nq).setCell ⟨w.heap.size + 1, 0, none⟩ (.int .i64 n)).setCell ⟨w.heap.size + 1 + 1, 0, none⟩ (.int .i64 0)) = W at *
    clear hW
    have y : W.cell? ⟨w.heap.size + 1, 0, none⟩ = some (.int .i64 n) := h3.2.1.cell 0
    have H3 := Lib.hid h3
    have HB := Lib.hid hb
    clear h3 hb
    first | go_region_law ((first
      | (go_simp; go_at_call 40; refine (HC2.out _).mono ?_; rintro e w4 ⟨hb4, cs, rfl, ht⟩; obtain ⟨x0, x1, x2, x3, xA, xn, xc, rfl⟩ := tlAt_form ht; have h4 := Lib.hid (H3.out.drew.below hb4); obtain ⟨z0, z1, z2, z3, z4⟩ := h4.out.1.five; have zf := h4.out.1.frozen; have y1 : w4.cell? ⟨w.heap.size + 1, 0, none⟩ = some (.int .i64 n) := h4.out.2.1.cell 0; have yf := h4.out.2.1.frozen 0; have x9 : w4.cell? ⟨w.heap.size + 1 + 1, 0, none⟩ = some (.int .i64 0) := h4.out.2.2.cell 0; have xf : w4.frozen? ⟨w.heap.size + 1 + 1, 0, none⟩ = false := h4.out.2.2.frozen 0)
      | fail)) | fail
    all_goals
      try go_wp2_with fail
      have h5 := three_puts h4.out (.int .i64 x0) (.bool x1) (.int .i64 x2) (.string x3) (.slice xA xn xc) n 0
      refine leaves_cons (f := 39) (args := #[.pointer (some ⟨w.heap.size, 0, none⟩), .pointer (some ⟨w.heap.size + 1, 0, none⟩), .pointer (some ⟨w.heap.size + 2, 0, none⟩)]) (by simp) (by simp [go_sem]) ?_
      refine (decode_idle _ _ _ _).mono ?_
      rintro e u' w5 ⟨rfl, rfl, rfl⟩
      refine ⟨_, dec_results rfl rfl rfl h5.1, ?_, _, rfl, ?_⟩
      · exact dec_below HB.out.drew hb4 h5.2
      · exact dec_tlAt HB.out H3.out ht h5.2

theorem decode_any (s : ByteArray) (w : World) (hs : s.size ≤ 1000000) :
    Calls Try.prog 29 #[.string s] w (DecPost (PB.dec s.data.toList) w) := by
  by_cases h : (PB.total s.data.toList).2 = 0
  · by_cases hn : s.size < (PB.total s.data.toList).1
    · exact decode_short s w hs h hn
    · exact decode_val s w hs h hn
  · exact decode_err s w hs h

end Go.Proofs.Ytipphdadibdifaa
