/- Contract of the reference's Decode. -/
import Derived.Test.YtipphdadibdifaaRefValue2
import Derived.Test.YtipphdadibdifaaDecode2
namespace Go.Proofs.Ytipphdadibdifaa
open Go.RowKit
open Go.PlainAid

theorem tl_off {w w4 w5 : World} {B : Nat} {t : Tl} {cs : Array Value} (hB : w.heap.size + 1 ≤ B) (ht : TlAt w4 (fun b => B ≤ b) t cs) (h5 : Off [w.heap.size] w4 w5) : TlAt w5 (fun b => w.heap.size ≤ b) t cs := by
  refine TlAt.keep h5.size (fun b hS hl => h5.block b hl ?_) (fun b hS _ => ?_) t cs ht
  · intro hm
    have e := List.mem_singleton.1 hm
    have hS' : B ≤ b := hS
    omega
  · have hS' : B ≤ b := hS
    omega

set_option maxRecDepth 100000 in
set_option maxHeartbeats 2000000 in
theorem rdecode_any (s : ByteArray) (w : World) (hs : s.size ≤ 1000000) :
    Calls Try.prog 31 #[.string s] w (DecPost (PB.dec s.data.toList) w) := by
  have HL := Lib.hid fun W : World => total_any s W (by unfold maxLen; omega)
  have hcap : (PB.total s.data.toList).1 ≤ 8192 := by
    unfold PB.total
    split
    · exact Nat.zero_le _
    · split
      · exact Nat.zero_le _
      · dsimp only; omega
  unfold PB.dec
  rw [len_size]
  generalize PB.total s.data.toList = p at HL hcap
  obtain ⟨n, er⟩ := p
  dsimp only at HL hcap ⊢
  by_cases he : er = 0
  · subst he
    have HL := Lib.hid (show ∀ W : World, Calls Try.prog 33 #[.string s] W (Tells2 (n : Int) 0 W) from HL.out)
    rw [if_neg (by omega)]
    by_cases hn : s.size < n
    · rw [if_pos hn]
      have t1 : decide ((s.size : Int) < n) = true := by simp; omega
      go_enter Try.func31, Try.ntmps31
      go_wp2_with (go_at_call 33; refine (HL.out _).mono ?_; rintro e w' ⟨rfl, nq, rfl⟩)
      refine bodyPost_ret (v := .tuple #[.agg (flat 0 0 ⟨#[]⟩), .int .i64 0, .int .i64 3]) (by simp [results, Try.results31, go_sem, flat]) rfl ⟨?_, _, rfl, tlAt_zero⟩
      exact below_cells (below_drewN ((Below.refl _ _).alloc (Nat.le_refl _) _) _) _ _ _ _ _
    · rw [if_neg hn]
      have t1 : decide ((s.size : Int) < n) = false := by simp; omega
      have t2 : n ≤ s.size := by omega
      have hpz : (s.extract 0 n).size ≤ 8192 := by rw [ByteArray.size_extract]; omega
      have hex : s.data.toList.take n = (s.extract 0 n).data.toList := by rw [extract_list]; simp
      rw [hex]
      have HC := fun W : World => rvalue_any 15 (s.extract 0 n) 1 W rfl hpz
      clear hex
      cases hval : PB.val 15 (s.extract 0 n).data.toList with
      | error er =>
        rw [hval] at HC
        have HC2 := Lib.hid HC
        clear HC hval
        dsimp only
        go_enter Try.func31, Try.ntmps31
        go_wp2_with (first
          | (go_at_call 33; refine (HL.out _).mono ?_; rintro e w' ⟨rfl, nq, rfl⟩)
          | (go_at_call 41; refine (HC2.out _).mono ?_; rintro e w4 ⟨hb4, hne, rfl⟩; unfold flat; have v3 : ((er : Int) != 0) = true := ne_zero hne; have b4 := Lib.hid ((Off.of_below hb4 []).bk ((Bk.new w 44 #[.int .i64 0, .bool false, .int .i64 0, .string ⟨#[]⟩, .slice none 0 0]).drewN nq) (by simp)); have hka := five_alloc b4.out; obtain ⟨z0, z1, z2, z3, z4, fz0, fz1, fz2, fz3, fz4⟩ := hka)
          | fail)
        refine bodyPost_ret (v := .tuple #[.agg (flat 0 0 ⟨#[]⟩), .int .i64 0, .int .i64 er]) ?_ rfl ⟨?_, _, rfl, tlAt_zero⟩
        · simp [results, Try.results31, go_sem, flat, z0, z1, z2, z3, z4]
        · have hs4 := hb4.size
          have ha : Below w.heap.size w ((w.alloc (.cells #[.int .i64 0, .bool false, .int .i64 0, .string ⟨#[]⟩, .slice none 0 0] 44)).drewN nq) := below_drewN ((Below.refl _ _).alloc (Nat.le_refl _) _) _
          exact below_cells ((ha.trans (hb4.mono ha.size)).alloc (Nat.le_trans ha.size hb4.size) _) _ _ _ _ _
      | ok t =>
        rw [hval] at HC
        have HC2 := Lib.hid HC
        clear HC hval
        dsimp only
        go_enter Try.func31, Try.ntmps31
        go_wp2_with (first
          | (go_at_call 33; refine (HL.out _).mono ?_; rintro e w' ⟨rfl, nq, rfl⟩)
          | (go_at_call 41; refine (HC2.out _).mono ?_; rintro e w4 ⟨hb4, cs, rfl, ht⟩; obtain ⟨x0, x1, x2, x3, xA, xn, xc, rfl⟩ := tlAt_form ht; have b4 := Lib.hid ((Off.of_below hb4 []).bk ((Bk.new w 44 #[.int .i64 0, .bool false, .int .i64 0, .string ⟨#[]⟩, .slice none 0 0]).drewN nq) (by simp)); have hka := five_alloc b4.out; obtain ⟨z0, z1, z2, z3, z4, fz0, fz1, fz2, fz3, fz4⟩ := hka)
          | fail)
        refine bodyPost_ret (v := .tuple #[.agg #[.int .i64 x0, .bool x1, .int .i64 x2, .string x3, .slice xA xn xc], .int .i64 n, .int .i64 0]) ?_ rfl ⟨?_, _, rfl, ?_⟩
        · simp [results, Try.results31, go_sem, z0, z1, z2, z3, z4]
        · have ha : Below w.heap.size w ((w.alloc (.cells #[.int .i64 0, .bool false, .int .i64 0, .string ⟨#[]⟩, .slice none 0 0] 44)).drewN nq) := below_drewN ((Below.refl _ _).alloc (Nat.le_refl _) _) _
          exact below_cells ((ha.trans (hb4.mono ha.size)).alloc (Nat.le_trans ha.size hb4.size) _) _ _ _ _ _
        · exact tl_off (w := w) (B := ((w.alloc (.cells #[.int .i64 0, .bool false, .int .i64 0, .string ⟨#[]⟩, .slice none 0 0] 44)).drewN nq).heap.size) (by show _ ≤ (w.alloc _).heap.size; simp) ht ((((((Off.refl _ _).alloc _).setCell (Or.inl (by simp)) _).setCell (Or.inl (by simp)) _).setCell (Or.inl (by simp)) _).setCell (Or.inl (by simp)) _ |>.setCell (Or.inl (by simp)) _)
  · rw [if_pos he]
    have t1 : ((er : Int) != 0) = true := by simp; omega
    clear he
    go_enter Try.func31, Try.ntmps31
    go_wp2_with (go_at_call 33; refine (HL.out _).mono ?_; rintro e w' ⟨rfl, nq, rfl⟩)
    refine bodyPost_ret (v := .tuple #[.agg (flat 0 0 ⟨#[]⟩), .int .i64 0, .int .i64 er]) (by simp [results, Try.results31, go_sem, flat]) rfl ⟨?_, _, rfl, tlAt_zero⟩
    exact below_cells (below_drewN ((Below.refl _ _).alloc (Nat.le_refl _) _) _) _ _ _ _ _

end Go.Proofs.Ytipphdadibdifaa
