/- DevPlays: the walk. -/
import Derived.Test.YtchldjjfaiikbaaPlaysState
import Derived.Test.YtchldjjfaiikbaaQuietTail
namespace Go.Proofs.Ytchldjjfaiikbaa
open Go.RowKit
open Go.PlainAid
set_option maxRecDepth 100000
set_option linter.unusedVariables false
set_option linter.unusedSimpArgs false

set_option maxHeartbeats 4000000 in
theorem plays_bad (sectors : Int) (v : Value) (w : World) (h : sectors < 1 ∨ 2048 < sectors) :
    Calls Try.prog 5 #[.int .i64 sectors, v] w (Holds w) := by
  have HD := Lib.hid (fun W => dnew_bad sectors W h)
  have HR := Lib.hid (fun W => rnew_bad sectors W h)
  clear h
  go_enter Try.func5, Try.ntmps5
  go_wp2_with fail
  (go_at_call 7)
  refine (awake_any _).mono ?_
  rintro e w1 ⟨rfl, hb1⟩
  have HB1 := Lib.hid hb1
  clear hb1
  go_wp2_with fail
  (go_at_call 8)
  refine (HD.out _).mono ?_
  rintro e w2 ⟨rfl, rfl⟩
  go_wp2_with fail
  (go_at_call 22)
  refine (HR.out _).mono ?_
  rintro e w2 ⟨rfl, rfl⟩
  go_wp2_with (first
    | (go_at_call 23; refine (dsize_nil _).mono ?_; rintro e w2 ⟨rfl, rfl⟩)
    | fail)
  go_ret
  exact ⟨rfl, HB1.out⟩

set_option maxHeartbeats 4000000 in
theorem plays_wide (n : Nat) (v : Value) (w : World) (h0 : 20 < n) (h1 : n ≤ 2048) :
    Calls Try.prog 5 #[.int .i64 (n : Int), v] w (Holds w) := by
  have HD : Hid (∀ W, Calls Try.prog 8 #[.int .i64 (n : Int)] W (NewPost n W)) := fun W => dnew_any n W (by omega) h1
  have HR : Hid (∀ W, Calls Try.prog 22 #[.int .i64 (n : Int)] W (RNewPost n W)) := fun W => rnew_any n W (by omega) h1
  have q : decide ((20 : Int) < (n : Int)) = true := by simp; omega
  have q2 : decide (20 < n) = true := by simp; omega
  clear h0 h1
  go_enter Try.func5, Try.ntmps5
  go_wp2_with fail
  (go_at_call 7)
  refine (awake_any _).mono ?_
  rintro e w1 ⟨rfl, hb1⟩
  have HB1 := Lib.hid hb1
  clear hb1
  go_wp2_with fail
  (go_at_call 8)
  refine (HD.out _).mono ?_
  rintro e w2 ⟨g, S, rfl, hd2, hb2, hS⟩
  have HD2 := Lib.hid hd2
  have HB2 := Lib.hid hb2
  have HS := Lib.hid hS
  clear hd2 hb2 hS
  go_wp2_with fail
  (go_at_call 22)
  refine (HR.out _).mono ?_
  rintro e w3 ⟨h, R, rfl, hr3, hb3, hR⟩
  have HP := Lib.hid (plays_start HB1.out HD2.out HB2.out HS.out hr3 hb3 hR)
  clear hr3 hb3 hR
  go_wp2_with fail
  (go_at_call 23)
  refine (dsize_any HP.out.dev).mono ?_
  rw [show (DevS.new n).sec.length = n by simp [DevS.new]]
  rintro e wX ⟨rfl, rfl⟩
  go_wp2_with fail
  go_ret
  exact ⟨by simp, HP.out.bel⟩

/-- The two devices are both E. -/
def PBoth (w : World) (g h : Nat) (E : DevS) (wx : World) : Prop := ∃ S R, PSt w wx g S E h R E

set_option maxHeartbeats 16000000 in
theorem plays_go (n : Nat) (A : Option Addr) (xs : List ActV) (cap : Nat) (w : World) (h0 : 0 < n) (h20 : n ≤ 20) (hlen : xs.length ≤ maxLen) (hac : DActsAt w A xs) :
    Calls Try.prog 5 #[.int .i64 (n : Int), .slice A xs.length cap] w (Holds w) := by
  have HD : Hid (∀ W, Calls Try.prog 8 #[.int .i64 (n : Int)] W (NewPost n W)) := fun W => dnew_any n W (by omega) (by omega)
  have HR : Hid (∀ W, Calls Try.prog 22 #[.int .i64 (n : Int)] W (RNewPost n W)) := fun W => rnew_any n W (by omega) (by omega)
  have q : decide ((20 : Int) < (n : Int)) = false := by simp; omega
  have q2 : decide (20 < n) = false := by simp; omega
  have HAC := Lib.hid hac
  have HLN := Lib.hid hlen
  clear hac hlen
  go_enter Try.func5, Try.ntmps5
  go_wp2_with fail
  (go_at_call 7)
  refine (awake_any _).mono ?_
  rintro e w1 ⟨rfl, hb1⟩
  have HB1 := Lib.hid hb1
  clear hb1
  go_wp2_with fail
  (go_at_call 8)
  refine (HD.out _).mono ?_
  rintro e w2 ⟨g, S2, rfl, hd2, hb2, hS⟩
  have HD2 := Lib.hid hd2
  have HB2 := Lib.hid hb2
  have HS := Lib.hid hS
  clear hd2 hb2 hS
  go_wp2_with fail
  (go_at_call 22)
  refine (HR.out _).mono ?_
  rintro e w3 ⟨h, R3, rfl, hr3, hb3, hR⟩
  have HP := Lib.hid (plays_start HB1.out HD2.out HB2.out HS.out hr3 hb3 hR)
  clear hr3 hb3 hR HD2 HB2 HS HB1
  go_wp2_with fail
  go_loopw [9] (fun c wr => ∃ k : Nat, c = .int .i64 (k : Int) ∧ k ≤ xs.length ∧ k ≤ 60 ∧ ∃ S D R, PSt w wr g S D h R D ∧ D.sec.length = n ∧ D.steps ≤ (k : Int)) (fun c _ => 60 - (intOf c).toNat)
  case atStart => exact ⟨0, rfl, Nat.zero_le _, by omega, S2, DevS.new n, R3, HP.out, by simp [DevS.new], by show (0 : Int) ≤ _; omega⟩
  case round =>
    clear HP
    obtain ⟨k, rfl, hk, hk60, S, D, R, hp, hn, hst⟩ := hrel
    have HP := Lib.hid hp
    have HN := Lib.hid hn
    have HST := Lib.hid hst
    clear hp hn hst
    have hcs : (k < xs.length ∧ k < 60) ∨ (¬ k < xs.length) ∨ (k < xs.length ∧ ¬ k < 60) := by omega
    rcases hcs with ⟨h1, h2⟩ | hx | ⟨hx, hy⟩
    · obtain ⟨x, hx⟩ : ∃ x, xs[k]? = some x := ⟨_, List.getElem?_eq_getElem h1⟩
      have HX := Lib.hid hx
      clear hx
      have HOK0 : Hid (x.Ok w) := by obtain ⟨_, _, _, _, h, _⟩ := HAC.out.six HX.out; exact h
      obtain ⟨kb, ko, rfl, hlt, hok, c0, c1, c2, c3, c4, c5⟩ := (HAC.out.below HP.out.bel).six HX.out
      have hkb : kb < w.heap.size := by
        obtain ⟨kb', ko', he', hlt', _⟩ := HAC.out.six HX.out
        injection he' with he'
        injection he' with he1 he2
        rw [he1]
        exact hlt'
      have HKB := Lib.hid hkb
      clear hok hkb
      have i1 : (0 : Int) ≤ (k : Int) := by omega
      have HSIX : Hid (∀ W, Below w.heap.size w W → W.cell? ⟨kb, ko + k * 6, none⟩ = some (.int .i64 x.kind) ∧ W.cell? ⟨kb, ko + k * 6 + 1, none⟩ = some (.int .i64 x.i) ∧ W.cell? ⟨kb, ko + k * 6 + 2, none⟩ = some (.int .i64 x.n) ∧
          W.cell? ⟨kb, ko + k * 6 + 3, none⟩ = some (.int .u8 (x.c.toNat : Int)) ∧ W.cell? ⟨kb, ko + k * 6 + 4, none⟩ = some (.string x.text) ∧ W.cell? ⟨kb, ko + k * 6 + 5, none⟩ = some (.slice x.A x.picks.length x.cap)) := fun W hW => by
        obtain ⟨kb', ko', he', hlt', hok', d0, d1, d2, d3, d4, d5⟩ := (HAC.out.below hW).six HX.out
        injection he' with he'
        injection he' with he1 he2
        subst he1 he2
        exact ⟨d0, d1, d2, d3, d4, d5⟩
      have HOKW : Hid (∀ W, Below w.heap.size w W → x.Ok W) := fun W hW => HOK0.out.below hW
      obtain ⟨D', hD'⟩ : ∃ D', D' = (x.on D).1 := ⟨_, rfl⟩
      obtain ⟨r', hr'⟩ : ∃ r', r' = (x.on D).2 := ⟨_, rfl⟩
      have HLN2 : Hid (D'.sec.length = n ∧ D'.steps ≤ ((k + 1 : Nat) : Int)) := by
        rw [hD']
        have h1 := on_len x D
        have := HST.out
        exact ⟨by rw [h1.1, HN.out], by omega⟩
      have HDO : Hid (∀ W S0 R0 E, PSt w W g S0 D h R0 E → Calls Try.prog 11 #[ptr g, .agg #[.int .i64 x.kind, .int .i64 x.i, .int .i64 x.n, .int .u8 (x.c.toNat : Int), .string x.text, .slice x.A x.picks.length x.cap]] W (DevPost g S0 D' (.int .i64 r') W)) :=
        fun W S0 R0 E p => by
          rw [hD', hr']
          exact does_any p.dev x (HOKW.out W p.bel) (by have := HST.out; omega) (fun hn a ha hs => by have := HOK0.out.old hn a ha; have := p.newS _ hs; omega)
      have HME : Hid (∀ W S0 R0 E, PSt w W g S0 E h R0 D → Calls Try.prog 24 #[ptr h, .agg #[.int .i64 x.kind, .int .i64 x.i, .int .i64 x.n, .int .u8 (x.c.toNat : Int), .string x.text, .slice x.A x.picks.length x.cap]] W (RDevPost h R0 D' (.int .i64 r') W)) :=
        fun W S0 R0 E p => by
          rw [hD', hr']
          exact means_any p.ref x (HOKW.out W p.bel) (by have := HST.out; omega) (fun hn a ha hs => by have := HOK0.out.old hn a ha; have := p.newR _ hs; omega)
      clear hD' hr'
      generalize x.kind = x0 at *
      generalize x.i = x1 at *
      generalize x.n = x2 at *
      generalize (x.c.toNat : Int) = x3 at *
      generalize x.text = x4 at *
      generalize hx5 : Value.slice x.A x.picks.length x.cap = x5 at *
      go_wp2_with fail
      have HKS : Hid (∀ W, Below w.heap.size w W → W.cell? ⟨kb, ko + k * 6, none⟩ = some (.int .i64 x0) ∧ W.cell? ⟨kb, ko + k * 6 + 1, none⟩ = some (.int .i64 x1) ∧ W.cell? ⟨kb, ko + k * 6 + 2, none⟩ = some (.int .i64 x2) ∧ W.cell? ⟨kb, ko + k * 6 + 3, none⟩ = some (.int .u8 x3) ∧ W.cell? ⟨kb, ko + k * 6 + 4, none⟩ = some (.string x4) ∧ W.cell? ⟨kb, ko + k * 6 + 5, none⟩ = some x5) := HSIX.out
      have hbb : ((!D'.off) == D'.off) = false := by cases D'.off <;> rfl
      have i2 : (k : Int) < (xs.length : Int) := by omega
      clear HD HR q q2 hk60
      go_cut [115] from 60 to 184 (fun v wx => v = .bool false ∧ PBoth w g h D' wx)
      case first =>
        refine wp_region_held_drew (S := fun W => W.cell? ⟨kb, ko + k * 6, none⟩ = some (.int .i64 x0) ∧ W.cell? ⟨kb, ko + k * 6 + 1, none⟩ = some (.int .i64 x1) ∧ W.cell? ⟨kb, ko + k * 6 + 2, none⟩ = some (.int .i64 x2) ∧ W.cell? ⟨kb, ko + k * 6 + 3, none⟩ = some (.int .u8 x3) ∧ W.cell? ⟨kb, ko + k * 6 + 4, none⟩ = some (.string x4) ∧ W.cell? ⟨kb, ko + k * 6 + 5, none⟩ = some x5) (by kernel_rfl) (HKS.out _ HP.out.drew.bel) (fun hHeld => ?_)
        refine wpAnyH_take (i := 0) (oi := { dst := some 70, op := Op.move (Operand.tmp 5), type := 25, pos := "law.go:101", after := #[], guard := none }) (v := ?_) rfl (by kernel_rfl) (by kernel_rfl) (by kernel_rfl) (fun _ _ _ h => h) (Or.inl ⟨by rfl, ?_⟩) hHeld ?_
        rotate_left
        · intro w hSw
          (try dsimp only at hSw)
          go_simp
          (try with_reducible rfl)
        try simp only [Act.put, List.setIfInBounds_toArray, List.set_cons_zero, List.set_cons_succ]
        refine wpAnyH_take (i := 1) (oi := { dst := some 71, op := Op.move (Operand.tmp 1), type := 22, pos := "law.go:101", after := #[], guard := none }) (v := ?_) rfl (by kernel_rfl) (by kernel_rfl) (by kernel_rfl) (fun _ _ _ h => h) (Or.inl ⟨by rfl, ?_⟩) hHeld ?_
        rotate_left
        · intro w hSw
          (try dsimp only at hSw)
          go_simp
          (try with_reducible rfl)
        try simp only [Act.put, List.setIfInBounds_toArray, List.set_cons_zero, List.set_cons_succ]
        refine wpAnyH_take (i := 2) (oi := { dst := some 72, op := Op.move (Operand.tmp 9), type := 3, pos := "law.go:101", after := #[], guard := none }) (v := ?_) rfl (by kernel_rfl) (by kernel_rfl) (by kernel_rfl) (fun _ _ _ h => h) (Or.inl ⟨by rfl, ?_⟩) hHeld ?_
        rotate_left
        · intro w hSw
          (try dsimp only at hSw)
          go_simp
          (try with_reducible rfl)
        try simp only [Act.put, List.setIfInBounds_toArray, List.set_cons_zero, List.set_cons_succ]
        refine wpAnyH_take (i := 3) (oi := { dst := some 73, op := Op.indexAddr 22 (Operand.tmp 71) (Operand.tmp 72), type := 0, pos := "law.go:101", after := #[{ on := 1, ground := Ground.data }, { on := 2, ground := Ground.data }], guard := none }) (v := ?_) rfl (by kernel_rfl) (by kernel_rfl) (by kernel_rfl) (fun _ _ _ h => h) (Or.inl ⟨by rfl, ?_⟩) hHeld ?_
        rotate_left
        · intro w hSw
          (try dsimp only at hSw)
          go_simp
          (try with_reducible rfl)
        try simp only [Act.put, List.setIfInBounds_toArray, List.set_cons_zero, List.set_cons_succ]
        refine wpAnyH_take (i := 4) (oi := { dst := some 74, op := Op.load 33 (Operand.tmp 73), type := 33, pos := "law.go:101", after := #[{ on := 3, ground := Ground.data }], guard := none }) (v := ?_) rfl (by kernel_rfl) (by kernel_rfl) (by kernel_rfl) (fun _ _ _ h => h) (Or.inl ⟨by rfl, ?_⟩) hHeld ?_
        rotate_left
        · intro w hSw
          (try dsimp only at hSw)
          go_simp
          (try with_reducible rfl)
        try simp only [Act.put, List.setIfInBounds_toArray, List.set_cons_zero, List.set_cons_succ]
        refine wpAnyH_take (i := 6) (oi := { dst := some 76, op := Op.move (Operand.tmp 7), type := 44, pos := "law.go:101", after := #[], guard := none }) (v := ?_) rfl (by kernel_rfl) (by kernel_rfl) (by kernel_rfl) (fun _ _ _ h => h) (Or.inl ⟨by rfl, ?_⟩) hHeld ?_
        rotate_left
        · intro w hSw
          (try dsimp only at hSw)
          go_simp
          (try with_reducible rfl)
        try simp only [Act.put, List.setIfInBounds_toArray, List.set_cons_zero, List.set_cons_succ]
        refine wpAnyH_take (i := 7) (oi := { dst := some 77, op := Op.move (Operand.tmp 1), type := 22, pos := "law.go:101", after := #[], guard := none }) (v := ?_) rfl (by kernel_rfl) (by kernel_rfl) (by kernel_rfl) (fun _ _ _ h => h) (Or.inl ⟨by rfl, ?_⟩) hHeld ?_
        rotate_left
        · intro w hSw
          (try dsimp only at hSw)
          go_simp
          (try with_reducible rfl)
        try simp only [Act.put, List.setIfInBounds_toArray, List.set_cons_zero, List.set_cons_succ]
        refine wpAnyH_take (i := 8) (oi := { dst := some 78, op := Op.move (Operand.tmp 9), type := 3, pos := "law.go:101", after := #[], guard := none }) (v := ?_) rfl (by kernel_rfl) (by kernel_rfl) (by kernel_rfl) (fun _ _ _ h => h) (Or.inl ⟨by rfl, ?_⟩) hHeld ?_
        rotate_left
        · intro w hSw
          (try dsimp only at hSw)
          go_simp
          (try with_reducible rfl)
        try simp only [Act.put, List.setIfInBounds_toArray, List.set_cons_zero, List.set_cons_succ]
        refine wpAnyH_take (i := 9) (oi := { dst := some 79, op := Op.indexAddr 22 (Operand.tmp 77) (Operand.tmp 78), type := 0, pos := "law.go:101", after := #[{ on := 7, ground := Ground.data }, { on := 8, ground := Ground.data }], guard := none }) (v := ?_) rfl (by kernel_rfl) (by kernel_rfl) (by kernel_rfl) (fun _ _ _ h => h) (Or.inl ⟨by rfl, ?_⟩) hHeld ?_
        rotate_left
        · intro w hSw
          (try dsimp only at hSw)
          go_simp
          (try with_reducible rfl)
        try simp only [Act.put, List.setIfInBounds_toArray, List.set_cons_zero, List.set_cons_succ]
        refine wpAnyH_take (i := 10) (oi := { dst := some 80, op := Op.load 33 (Operand.tmp 79), type := 33, pos := "law.go:101", after := #[{ on := 9, ground := Ground.data }], guard := none }) (v := ?_) rfl (by kernel_rfl) (by kernel_rfl) (by kernel_rfl) (fun _ _ _ h => h) (Or.inl ⟨by rfl, ?_⟩) hHeld ?_
        rotate_left
        · intro w hSw
          (try dsimp only at hSw)
          go_simp
          (try with_reducible rfl)
        try simp only [Act.put, List.setIfInBounds_toArray, List.set_cons_zero, List.set_cons_succ]
        refine wpAnyH_ready (rs := [5]) (by kernel_rfl) (by simp) ?_
        refine AllReadyH.cons (o := { dst := some 75, op := Op.call { callee := Callee.value (Operand.func 11), args := #[Operand.tmp 70, Operand.tmp 74], argTypes := #[25, 33] }, type := 26, pos := "law.go:101", after := #[{ on := 0, ground := Ground.data }, { on := 4, ground := Ground.data }], guard := none }) rfl (fun K hK => ?_) AllReadyH.nil
        go_simp
        (go_at_call 11)
        have hq := HP.out.drew
        refine (HDO.out _ _ _ _ hq).mono ?_
        rintro e w4 ⟨rfl, hp4⟩
        obtain ⟨S4, hz⟩ := hq.did hp4
        have HA := Lib.hid hz
        clear hp4 hz hq
        go_wp2_with fail
        refine hK.out _ _ (HKS.out _ HA.out.bel) (fun hHeld2 => ?_)
        clear hK K hHeld
        have hHeld := hHeld2
        clear hHeld2
        try simp only [Act.put, List.setIfInBounds_toArray, List.set_cons_zero, List.set_cons_succ]
        refine wpAnyH_ready (rs := [11]) (by kernel_rfl) (by simp) ?_
        refine AllReadyH.cons (o := { dst := some 81, op := Op.call { callee := Callee.value (Operand.func 24), args := #[Operand.tmp 76, Operand.tmp 80], argTypes := #[44, 33] }, type := 26, pos := "law.go:101", after := #[{ on := 6, ground := Ground.data }, { on := 10, ground := Ground.data }, { on := 5, ground := Ground.chain }], guard := none }) rfl (fun K hK => ?_) AllReadyH.nil
        go_simp
        (go_at_call 24)
        have hq := HA.out
        refine (HME.out _ _ _ _ hq).mono ?_
        rintro e w5 ⟨rfl, hp4⟩
        obtain ⟨R4, hz⟩ := hq.meant hp4
        have HZ := Lib.hid hz
        clear hp4 hz hq
        go_wp2_with fail
        refine hK.out _ _ (HKS.out _ HZ.out.bel) (fun hHeld2 => ?_)
        clear hK K hHeld
        have hHeld := hHeld2
        clear hHeld2
        try simp only [Act.put, List.setIfInBounds_toArray, List.set_cons_zero, List.set_cons_succ]
        obtain ⟨l, cl, v1, d0, d2, d4, d5, d6⟩ := HZ.out.sector
        clear d6 d0
        have HQ1 : Hid (∀ m, Calls Try.prog 10 #[ptr g] (w5.drewN m) (fun e w' => e = .returned (.bool (!D'.off)) ∧ w' = w5.drewN m)) := fun m => (don_any (HZ.out.drewN m).dev).mono fun e w' hh => ⟨hh.1, hh.2.symm⟩
        have HQ2 : Hid (∀ m, Calls Try.prog 21 #[ptr g] (w5.drewN m) (fun e w' => e = .returned (.int .i64 D'.steps) ∧ w' = w5.drewN m)) := fun m => (dsteps_any (HZ.out.drewN m).dev).mono fun e w' hh => ⟨hh.1, hh.2.symm⟩
        have HQ3 : Hid (∀ m, Calls Try.prog 18 #[ptr g] (w5.drewN m) (fun e w' => e = .returned (.int .i64 D'.writes) ∧ w' = w5.drewN m)) := fun m => (dwrites_any (HZ.out.drewN m).dev).mono fun e w' hh => ⟨hh.1, hh.2.symm⟩
        have HQ4 : Hid (∀ m, Calls Try.prog 23 #[ptr g] (w5.drewN m) (fun e w' => e = .returned (.int .i64 (n : Int)) ∧ w' = w5.drewN m)) := fun m => (dsize_any (HZ.out.drewN m).dev).mono fun e w' hh => ⟨by rw [hh.1, HLN2.out.1], hh.2.symm⟩
        refine wpAnyH_tail 12 (by kernel_rfl) (by rfl) (by kernel_rfl) (fun n => HKS.out _ (HZ.out.drewN n).bel) ?_
        simp only [List.drop_succ_cons, List.drop_zero]
        repeat (any_goals (first
          | go_big_quiet_step ((first
            | (go_at_call 10; exact Calls.quiet_of_same (HQ1.out _))
            | (go_at_call 21; exact Calls.quiet_of_same (HQ2.out _))
            | (go_at_call 18; exact Calls.quiet_of_same (HQ3.out _))
            | (go_at_call 23; exact Calls.quiet_of_same (HQ4.out _))))
          | quiet_step ((first
            | (go_at_call 10; exact Calls.quiet_of_same (HQ1.out _))
            | (go_at_call 21; exact Calls.quiet_of_same (HQ2.out _))
            | (go_at_call 18; exact Calls.quiet_of_same (HQ3.out _))
            | (go_at_call 23; exact Calls.quiet_of_same (HQ4.out _))))
          | fail))
        all_goals (refine wpQuiet_nil ?_; intro _ hw'; obtain ⟨nq, hw''⟩ := hw'; subst hw'')
        all_goals
          go_wp2_with fail
          go_meet
          exact ⟨rfl, _, _, HZ.out.drewN _⟩
      case rest =>
        obtain ⟨rfl, S4, R4, hp⟩ := hcut
        have HP4 := Lib.hid hp
        clear HKS HDO HME HSIX HOKW HP hp HOK0 c0 c1 c2 c3 c4 c5 hbb
        go_wp2_with fail
        go_loopw [10] (fun c wr2 => ∃ q : Int, c = .int .i64 q ∧ -1 ≤ q ∧ q ≤ (n : Int) + 1 ∧ PSt w wr2 g S4 D' h R4 D') (fun c _ => ((n : Int) + 1 - intOf c).toNat)
        case atStart => exact ⟨-1, rfl, by omega, by omega, HP4.out⟩
        case round =>
          clear HP4
          obtain ⟨q, rfl, hq1, hq2, hp⟩ := hrel
          have HP5 := Lib.hid hp
          clear hp
          have hsb : D'.steps ≤ 1000000000 := by have := HLN2.out.2; omega
          have HSB := Lib.hid hsb
          have HRD : Hid (∀ W, PSt w W g S4 D' h R4 D' → Calls Try.prog 25 #[ptr g, .int .i64 q] W (ReadPost (D'.read q).1 (D'.read q).2 W)) := fun W p => dread_any p.dev q HSB.out
          have HRR : Hid (∀ W, PSt w W g S4 D' h R4 D' → Calls Try.prog 26 #[ptr h, .int .i64 q] W (ReadPost (D'.read q).1 (D'.read q).2 W)) := fun W p => rread_any p.ref q HSB.out
          have HWD : Hid (∀ W, PSt w W g S4 D' h R4 D' → Calls Try.prog 16 #[ptr g, .int .i64 q] W (fun e w' => e = .returned (.int .i64 (D'.waitsN q)) ∧ W = w')) := fun W p => dwaits_any p.dev q
          have HWR : Hid (∀ W, PSt w W g S4 D' h R4 D' → Calls Try.prog 27 #[ptr h, .int .i64 q] W (fun e w' => e = .returned (.int .i64 (D'.waitsN q)) ∧ W = w')) := fun W p => rwaits_any p.ref q HSB.out
          have HLQ : Hid (∀ m, Calls Try.prog 13 #[ptr g, .int .i64 q] (wr.drewN m) (fun e w' => e = .returned (.string (D'.lasts q)) ∧ w' = wr.drewN m)) := fun m => (dlasts_any (HP5.out.drewN m).dev q).mono fun e w' hh => ⟨hh.1, hh.2.symm⟩
          clear hsb
          obtain ⟨l, cl, v1, d0, d2, d4, d5, d6⟩ := HP5.out.sector
          rw [HLN2.out.1] at d0
          have HD6 := Lib.hid d6
          clear d6 d2 d4 d5
          by_cases hqn : q ≤ (n : Int)
          · generalize (D'.read q).1 = rs at *
            generalize (D'.read q).2 = re at *
            generalize D'.waitsN q = wn at *
            have hways : (decide (0 ≤ q) = false ∧ decide (q < 0) = true ∧ Hid (D'.lasts q = ByteArray.empty)) ∨ (decide (0 ≤ q) = true ∧ decide (q < (n : Int)) = false ∧ decide (q < 0) = false ∧ decide ((n : Int) ≤ q) = true ∧ Hid (D'.lasts q = ByteArray.empty)) ∨ (0 ≤ q ∧ q < (n : Int)) := by
              have hl := HLN2.out.1
              by_cases g1 : q < 0
              · left
                refine ⟨by simp; omega, by simpa using g1, show _ = _ by unfold DevS.lasts DevS.isIn; simp; omega⟩
              · by_cases g2 : (n : Int) ≤ q
                · right; left
                  refine ⟨by simp; omega, by simp; omega, by simp; omega, by simpa using g2, show _ = _ by unfold DevS.lasts DevS.isIn; simp; omega⟩
                · right; right
                  exact ⟨by omega, by omega⟩
            rcases hways with ⟨z1, z2, HE⟩ | ⟨z1, z2, z3, z4, HE⟩ | ⟨z1, z2⟩
            · rw [HE.out] at HLQ
              go_wp2_with (first
                | (go_at_call 25; refine (HRD.out _ HP5.out).mono ?_; rintro e wX ⟨rfl, rfl⟩)
                | (go_at_call 26; refine (HRR.out _ HP5.out).mono ?_; rintro e wX ⟨rfl, rfl⟩)
                | (go_at_call 16; refine (HWD.out _ HP5.out).mono ?_; rintro e wX ⟨rfl, rfl⟩)
                | (go_at_call 27; refine (HWR.out _ HP5.out).mono ?_; rintro e wX ⟨rfl, rfl⟩)
                | fail)
              go_quiet ((go_at_call 13; exact Calls.quiet_of_same (HLQ.out _)))
              go_wp2_with fail
              go_roundw
              case rel =>
                first
                  | exact ⟨_, rfl, by omega, by omega, HP5.out.drewN _⟩
                  | ((repeat apply Exists.intro); exact ⟨⟨_, rfl, by omega, by omega, HP5.out.drewN _⟩, rfl⟩)
              case measure => simp [intOf]; omega
            · rw [HE.out] at HLQ
              go_wp2_with (first
                | (go_at_call 25; refine (HRD.out _ HP5.out).mono ?_; rintro e wX ⟨rfl, rfl⟩)
                | (go_at_call 26; refine (HRR.out _ HP5.out).mono ?_; rintro e wX ⟨rfl, rfl⟩)
                | (go_at_call 16; refine (HWD.out _ HP5.out).mono ?_; rintro e wX ⟨rfl, rfl⟩)
                | (go_at_call 27; refine (HWR.out _ HP5.out).mono ?_; rintro e wX ⟨rfl, rfl⟩)
                | fail)
              go_quiet ((go_at_call 13; exact Calls.quiet_of_same (HLQ.out _)))
              go_wp2_with fail
              go_roundw
              case rel =>
                first
                  | exact ⟨_, rfl, by omega, by omega, HP5.out.drewN _⟩
                  | ((repeat apply Exists.intro); exact ⟨⟨_, rfl, by omega, by omega, HP5.out.drewN _⟩, rfl⟩)
              case measure => simp [intOf]; omega
            · obtain ⟨j, rfl⟩ : ∃ j : Nat, q = (j : Int) := ⟨q.toNat, by omega⟩
              have hcj := HD6.out j (by rw [HLN2.out.1]; omega)
              have z3 : decide (0 ≤ (j : Int)) = true := by simp
              have z4 : decide ((j : Int) < (n : Int)) = true := decide_eq_true z2
              have z5 : decide ((j : Int) < 0) = false := by simp
              have z6 : decide ((n : Int) ≤ (j : Int)) = false := by simp; omega
              have z7 : decide (j < n) = true := by simp; omega
              have z8 : decide (n ≤ j) = false := by simp; omega
              generalize D'.lasts (j : Int) = ls at *
              go_wp2_with (first
                | (go_at_call 25; refine (HRD.out _ HP5.out).mono ?_; rintro e wX ⟨rfl, rfl⟩)
                | (go_at_call 26; refine (HRR.out _ HP5.out).mono ?_; rintro e wX ⟨rfl, rfl⟩)
                | (go_at_call 16; refine (HWD.out _ HP5.out).mono ?_; rintro e wX ⟨rfl, rfl⟩)
                | (go_at_call 27; refine (HWR.out _ HP5.out).mono ?_; rintro e wX ⟨rfl, rfl⟩)
                | fail)
              go_quiet ((go_at_call 13; exact Calls.quiet_of_same (HLQ.out _)))
              go_wp2_with fail
              go_roundw
              case rel =>
                first
                  | exact ⟨_, rfl, by omega, by omega, HP5.out.drewN _⟩
                  | ((repeat apply Exists.intro); exact ⟨⟨_, rfl, by omega, by omega, HP5.out.drewN _⟩, rfl⟩)
              case measure => simp [intOf]; omega
          · go_wp2_with fail
            go_roundw
            case rel => exact ⟨k + 1, by go_num, by omega, by omega, S4, D', R4, HP5.out, HLN2.out.1, HLN2.out.2⟩
            case measure => simp [intOf]; omega
    all_goals
      go_wp2_with fail
      go_ret
      exact ⟨rfl, HP.out.bel⟩

theorem devPlays_walk (sectors : Int) (A : Option Addr) (xs : List ActV) (cap : Nat) (w : World) (hs : (Lit.int .i64 sectors).wf = true) (hlen : xs.length ≤ maxLen) (hac : DActsAt w A xs) :
    Calls Try.prog 5 #[.int .i64 sectors, .slice A xs.length cap] w (Holds w) := by
  by_cases h : sectors < 1 ∨ 2048 < sectors
  · exact plays_bad sectors _ w h
  · obtain ⟨n, rfl⟩ : ∃ n : Nat, sectors = (n : Int) := ⟨sectors.toNat, by omega⟩
    by_cases h20 : 20 < n
    · exact plays_wide n _ w h20 (by omega)
    · exact plays_go n A xs cap w (by omega) (by omega) hlen hac
end Go.Proofs.Ytchldjjfaiikbaa
