/- May a message's numbers be? Contract of msg.ranged. -/
import Derived.Test.YtbiglfpikfjbpaaDoorMsgFCount
import Derived.Test.YtbiglfpikfjbpaaDoorMsgAnswer
namespace Go.Proofs.YtbiglfpikfjbpaaDoor
open Go.RowKit
set_option maxRecDepth 100000
set_option linter.unusedVariables false
set_option linter.unusedSimpArgs false

set_option maxHeartbeats 4000000 in
theorem rng_bind (M : Ms) (m : MC) (S : Nat → Prop) (w : World) (h : MsAt w S M m) (hop : M.op = 0) :
    Calls Tryd.prog 37 #[.agg m.cells] w (TellsQ (inB M.version 1 127 && (M.has || (!M.sasl || !fullB M.value))) w) := by
  obtain ⟨p, hp⟩ : ∃ p, p = (inB M.version 1 127 && (M.has || (!M.sasl || !fullB M.value))) := ⟨_, rfl⟩
  rw [← hp]
  have HP := Lib.hid hp
  obtain ⟨f, at', li, mo, de, co, rfl, hfit, hfl, hat, hli, hmo, hde, hco⟩ := h
  obtain ⟨cs, hcs⟩ : ∃ cs, cs = (M.mc f at' li mo de co).cells := ⟨_, rfl⟩
  have c1 : cs[1]? = some (.int .i64 (0)) := by rw [hcs, ← hop]; rfl
  have c2 : cs[2]? = some (.int .i64 M.version) := by rw [hcs]; rfl
  have c4 : cs[4]? = some (.bool M.sasl) := by rw [hcs]; rfl
  have c7 : cs[7]? = some (.bool M.has) := by rw [hcs]; rfl
  have c8 : cs[8]? = some (.string M.value) := by rw [hcs]; rfl
  rw [← hcs]
  have HB := Lib.hid ((Below.refl w.heap.size w).alloc (Nat.le_refl _) (.cells cs 30))
  clear hp hcs hop hfit hfl hat hli hmo hde hco
  go_enter Tryd.func37, Tryd.ntmps37
  go_wp2_with fail
  (go_at_call 36)
  refine (within_any M.version 1 127 _).mono ?_
  cases hin : inB M.version 1 127 with
  | false =>
    rintro e w1 ⟨rfl, rfl⟩
    have Hin := Lib.hid hin
    clear hin
    go_wp2_with fail
    go_ret
    exact tellsQ_of (by rw [HP.out, Hin.out]; simp) HB.out
  | true =>
    rintro e w1 ⟨rfl, rfl⟩
    have Hin := Lib.hid hin
    clear hin
    cases hh : M.has with
    | true =>
      have c7' := c7
      rw [hh] at c7
      have HH := Lib.hid hh
      clear hh c7'
      go_wp2_with fail
      go_ret
      exact tellsQ_of (by rw [HP.out, Hin.out, HH.out]; simp) HB.out
    | false =>
      rw [hh] at c7
      have HH := Lib.hid hh
      clear hh
      cases hs : M.sasl with
      | false =>
        rw [hs] at c4
        have HS := Lib.hid hs
        clear hs
        go_wp2_with fail
        go_ret
        exact tellsQ_of (by rw [HP.out, Hin.out, HH.out, HS.out]; simp) HB.out
      | true =>
        rw [hs] at c4
        have HS := Lib.hid hs
        clear hs
        obtain ⟨x, hx⟩ : ∃ x, x = M.value := ⟨_, rfl⟩
        rw [← hx] at c8
        cases hv : fullB x with
        | false =>
          have v1 := (full_no hv).1
          have v2 := (full_no hv).2
          have v3 : (!x.toList.isEmpty) = false := hv
          have HV := Lib.hid (show fullB M.value = false by rw [← hx]; exact hv)
          clear hv hx
          go_wp2_with fail
          go_ret
          exact tellsQ_of (by rw [HP.out, Hin.out, HH.out, HS.out, HV.out]; simp) HB.out
        | true =>
          have v1 := full_yes hv
          have v3 : (!x.toList.isEmpty) = true := hv
          have HV := Lib.hid (show fullB M.value = true by rw [← hx]; exact hv)
          clear hv hx
          go_wp2_with fail
          go_ret
          exact tellsQ_of (by rw [HP.out, Hin.out, HH.out, HS.out, HV.out]; simp) HB.out

set_option maxHeartbeats 4000000 in
theorem rng_search (M : Ms) (m : MC) (S : Nat → Prop) (w : World) (h : MsAt w S M m) (hop : M.op = 3) :
    Calls Tryd.prog 37 #[.agg m.cells] w (TellsQ (inB M.scope 0 2 && (inB M.deref 0 3 && (inB M.size 0 2147483647 && (inB M.time 0 2147483647 && M.filter.right)))) w) := by
  obtain ⟨p, hp⟩ : ∃ p, p = (inB M.scope 0 2 && (inB M.deref 0 3 && (inB M.size 0 2147483647 && (inB M.time 0 2147483647 && M.filter.right)))) := ⟨_, rfl⟩
  rw [← hp]
  have HP := Lib.hid hp
  obtain ⟨f, at', li, mo, de, co, rfl, hfit, hfl, hat, hli, hmo, hde, hco⟩ := h
  obtain ⟨cs, hcs⟩ : ∃ cs, cs = (M.mc f at' li mo de co).cells := ⟨_, rfl⟩
  have c1 : cs[1]? = some (.int .i64 (3)) := by rw [hcs, ← hop]; rfl
  have c11 : cs[11]? = some (.int .i64 M.scope) := by rw [hcs]; rfl
  have c12 : cs[12]? = some (.int .i64 M.deref) := by rw [hcs]; rfl
  have c13 : cs[13]? = some (.int .i64 M.size) := by rw [hcs]; rfl
  have c14 : cs[14]? = some (.int .i64 M.time) := by rw [hcs]; rfl
  have c16 : cs[16]? = some (.int .i64 f.kind) := by rw [hcs]; rfl
  have c17 : cs[17]? = some (.string f.attr) := by rw [hcs]; rfl
  have c18 : cs[18]? = some (.string f.value) := by rw [hcs]; rfl
  have c19 : cs[19]? = some (.string f.first) := by rw [hcs]; rfl
  have c20 : cs[20]? = some (.slice f.any.A f.any.n f.any.c) := by rw [hcs]; rfl
  have c21 : cs[21]? = some (.string f.last) := by rw [hcs]; rfl
  have c22 : cs[22]? = some (.slice f.kids.A f.kids.n f.kids.c) := by rw [hcs]; rfl
  rw [← hcs]
  have HB := Lib.hid ((Below.refl w.heap.size w).alloc (Nat.le_refl _) (.cells cs 30))
  have HR := Lib.hid (fright_any M.filter f.cells S (w.alloc (.cells cs 30)) (FlAt.keep (T := S) HB.out.size (fun x _ hlt => HB.out.block x hlt) (fun _ h _ => h) _ _ hfl))
  obtain ⟨q, hq⟩ : ∃ q, q = M.filter.right := ⟨_, rfl⟩
  have HQ := Lib.hid hq
  rw [← hq] at HR
  clear hq
  clear hp hcs hop hfit hfl hat hli hmo hde hco
  go_enter Tryd.func37, Tryd.ntmps37
  go_wp2_with fail
  (go_at_call 36)
  refine (within_any M.scope 0 2 _).mono ?_
  cases ha : inB M.scope 0 2 with
  | false =>
    rintro e w1 ⟨rfl, rfl⟩
    have Ha := Lib.hid ha
    clear ha
    go_wp2_with fail
    go_ret
    exact tellsQ_of (by rw [HP.out, Ha.out]; simp) HB.out
  | true =>
    rintro e w1 ⟨rfl, rfl⟩
    have Ha := Lib.hid ha
    clear ha
    go_wp2_with fail
    (go_at_call 36)
    refine (within_any M.deref 0 3 _).mono ?_
    cases hb : inB M.deref 0 3 with
    | false =>
      rintro e w1 ⟨rfl, rfl⟩
      have Hb := Lib.hid hb
      clear hb
      go_wp2_with fail
      go_ret
      exact tellsQ_of (by rw [HP.out, Ha.out, Hb.out]; simp) HB.out
    | true =>
      rintro e w1 ⟨rfl, rfl⟩
      have Hb := Lib.hid hb
      clear hb
      go_wp2_with fail
      (go_at_call 36)
      refine (within_any M.size 0 2147483647 _).mono ?_
      cases hc : inB M.size 0 2147483647 with
      | false =>
        rintro e w1 ⟨rfl, rfl⟩
        have Hc := Lib.hid hc
        clear hc
        go_wp2_with fail
        go_ret
        exact tellsQ_of (by rw [HP.out, Ha.out, Hb.out, Hc.out]; simp) HB.out
      | true =>
        rintro e w1 ⟨rfl, rfl⟩
        have Hc := Lib.hid hc
        clear hc
        go_wp2_with fail
        (go_at_call 36)
        refine (within_any M.time 0 2147483647 _).mono ?_
        cases hd : inB M.time 0 2147483647 with
        | false =>
          rintro e w1 ⟨rfl, rfl⟩
          have Hd := Lib.hid hd
          clear hd
          go_wp2_with fail
          go_ret
          exact tellsQ_of (by rw [HP.out, Ha.out, Hb.out, Hc.out, Hd.out]; simp) HB.out
        | true =>
          rintro e w1 ⟨rfl, rfl⟩
          have Hd := Lib.hid hd
          clear hd
          go_wp2_with fail
          (go_at_call 55)
          refine HR.out.mono ?_
          rintro e w2 ⟨rfl, hb2⟩
          have HB2 := Lib.hid (HB.out.trans (hb2.mono HB.out.size))
          clear hb2 HR
          cases q with
          | false =>
            go_wp2_with fail
            go_ret
            exact tellsQ_of (by rw [HP.out, Ha.out, Hb.out, Hc.out, Hd.out, ← HQ.out]; simp) HB2.out
          | true =>
            go_wp2_with fail
            go_ret
            exact tellsQ_of (by rw [HP.out, Ha.out, Hb.out, Hc.out, Hd.out, ← HQ.out]; simp) HB2.out

set_option maxHeartbeats 4000000 in
theorem rng_rename (M : Ms) (m : MC) (S : Nat → Prop) (w : World) (h : MsAt w S M m) (hop : M.op = 12) :
    Calls Tryd.prog 37 #[.agg m.cells] w (TellsQ (decide (M.dest.length ≤ 1)) w) := by
  obtain ⟨p, hp⟩ : ∃ p, p = (decide (M.dest.length ≤ 1)) := ⟨_, rfl⟩
  rw [← hp]
  have HP := Lib.hid hp
  obtain ⟨f, at', li, mo, de, co, rfl, hfit, hfl, hat, hli, hmo, hde, hco⟩ := h
  obtain ⟨cs, hcs⟩ : ∃ cs, cs = (M.mc f at' li mo de co).cells := ⟨_, rfl⟩
  have c1 : cs[1]? = some (.int .i64 (12)) := by rw [hcs, ← hop]; rfl
  have c28 : cs[28]? = some (.slice de.A de.n de.c) := by rw [hcs]; rfl
  rw [← hcs]
  have HB := Lib.hid ((Below.refl w.heap.size w).alloc (Nat.le_refl _) (.cells cs 30))
  have hdn : de.n = M.dest.length := hde.1
  obtain ⟨dA, dn, dc⟩ := de
  simp only at hdn c28
  subst hdn
  clear hp hcs hop hfit hfl hat hli hmo hde hco
  go_enter Tryd.func37, Tryd.ntmps37
  cases hq : decide (M.dest.length ≤ 1) with
  | false =>
    have q1 : decide ((M.dest.length : Int) ≤ 1) = false := by simp at hq ⊢; omega
    have HQ := Lib.hid hq
    clear hq
    go_wp2_with fail
    go_ret
    exact tellsQ_of (by rw [HP.out, HQ.out]) HB.out
  | true =>
    have q1 : decide ((M.dest.length : Int) ≤ 1) = true := by simp at hq ⊢; omega
    have HQ := Lib.hid hq
    clear hq
    go_wp2_with fail
    go_ret
    exact tellsQ_of (by rw [HP.out, HQ.out]) HB.out
set_option maxHeartbeats 4000000 in
theorem rng_abandon (M : Ms) (m : MC) (S : Nat → Prop) (w : World) (h : MsAt w S M m) (hop : M.op = 16) :
    Calls Tryd.prog 37 #[.agg m.cells] w (TellsQ (inB M.other 0 2147483647) w) := by
  obtain ⟨p, hp⟩ : ∃ p, p = (inB M.other 0 2147483647) := ⟨_, rfl⟩
  rw [← hp]
  have HP := Lib.hid hp
  obtain ⟨f, at', li, mo, de, co, rfl, hfit, hfl, hat, hli, hmo, hde, hco⟩ := h
  obtain ⟨cs, hcs⟩ : ∃ cs, cs = (M.mc f at' li mo de co).cells := ⟨_, rfl⟩
  have c1 : cs[1]? = some (.int .i64 (16)) := by rw [hcs, ← hop]; rfl
  have c29 : cs[29]? = some (.int .i64 M.other) := by rw [hcs]; rfl
  rw [← hcs]
  have HB := Lib.hid ((Below.refl w.heap.size w).alloc (Nat.le_refl _) (.cells cs 30))
  clear hp hcs hop hfit hfl hat hli hmo hde hco
  go_enter Tryd.func37, Tryd.ntmps37
  go_wp2_with fail
  (go_at_call 36)
  refine (within_any M.other 0 2147483647 _).mono ?_
  cases ha : inB M.other 0 2147483647 with
  | false =>
    rintro e w1 ⟨rfl, rfl⟩
    have Ha := Lib.hid ha
    clear ha
    go_wp2_with fail
    go_ret
    exact tellsQ_of (by rw [HP.out, Ha.out]) HB.out
  | true =>
    rintro e w1 ⟨rfl, rfl⟩
    have Ha := Lib.hid ha
    clear ha
    go_wp2_with fail
    go_ret
    exact tellsQ_of (by rw [HP.out, Ha.out]) HB.out
set_option maxHeartbeats 4000000 in
theorem rng_ext (M : Ms) (m : MC) (S : Nat → Prop) (w : World) (h : MsAt w S M m) (hop : M.op = 23) :
    Calls Tryd.prog 37 #[.agg m.cells] w (TellsQ (M.has || !fullB M.value) w) := by
  obtain ⟨p, hp⟩ : ∃ p, p = (M.has || !fullB M.value) := ⟨_, rfl⟩
  rw [← hp]
  have HP := Lib.hid hp
  obtain ⟨f, at', li, mo, de, co, rfl, hfit, hfl, hat, hli, hmo, hde, hco⟩ := h
  obtain ⟨cs, hcs⟩ : ∃ cs, cs = (M.mc f at' li mo de co).cells := ⟨_, rfl⟩
  have c1 : cs[1]? = some (.int .i64 (23)) := by rw [hcs, ← hop]; rfl
  have c7 : cs[7]? = some (.bool M.has) := by rw [hcs]; rfl
  have c8 : cs[8]? = some (.string M.value) := by rw [hcs]; rfl
  rw [← hcs]
  have HB := Lib.hid ((Below.refl w.heap.size w).alloc (Nat.le_refl _) (.cells cs 30))
  clear hp hcs hop hfit hfl hat hli hmo hde hco
  go_enter Tryd.func37, Tryd.ntmps37
  cases hh : M.has with
  | true =>
    rw [hh] at c7
    have HH := Lib.hid hh
    clear hh
    go_wp2_with fail
    go_ret
    exact tellsQ_of (by rw [HP.out, HH.out]; simp) HB.out
  | false =>
    rw [hh] at c7
    have HH := Lib.hid hh
    clear hh
    obtain ⟨x, hx⟩ : ∃ x, x = M.value := ⟨_, rfl⟩
    rw [← hx] at c8
    cases hv : fullB x with
    | false =>
      have v1 := (full_no hv).1
      have v2 := (full_no hv).2
      have v3 : (!x.toList.isEmpty) = false := hv
      have HV := Lib.hid (show fullB M.value = false by rw [← hx]; exact hv)
      clear hv hx
      go_wp2_with fail
      go_ret
      exact tellsQ_of (by rw [HP.out, HH.out, HV.out]; simp) HB.out
    | true =>
      have v1 := full_yes hv
      have v3 : (!x.toList.isEmpty) = true := hv
      have HV := Lib.hid (show fullB M.value = true by rw [← hx]; exact hv)
      clear hv hx
      go_wp2_with fail
      go_ret
      exact tellsQ_of (by rw [HP.out, HH.out, HV.out]; simp) HB.out
set_option maxHeartbeats 4000000 in
theorem rng_free2 (M : Ms) (m : MC) (S : Nat → Prop) (w : World) (h : MsAt w S M m) (hop : M.op = 2) :
    Calls Tryd.prog 37 #[.agg m.cells] w (TellsQ (true) w) := by
  obtain ⟨p, hp⟩ : ∃ p, p = (true) := ⟨_, rfl⟩
  rw [← hp]
  have HP := Lib.hid hp
  obtain ⟨f, at', li, mo, de, co, rfl, hfit, hfl, hat, hli, hmo, hde, hco⟩ := h
  obtain ⟨cs, hcs⟩ : ∃ cs, cs = (M.mc f at' li mo de co).cells := ⟨_, rfl⟩
  have c1 : cs[1]? = some (.int .i64 (2)) := by rw [hcs, ← hop]; rfl
  rw [← hcs]
  have HB := Lib.hid ((Below.refl w.heap.size w).alloc (Nat.le_refl _) (.cells cs 30))
  clear hp hcs hop hfit hfl hat hli hmo hde hco
  go_enter Tryd.func37, Tryd.ntmps37
  go_wp2_with fail
  go_ret
  exact tellsQ_of HP.out HB.out
set_option maxHeartbeats 4000000 in
theorem rng_free4 (M : Ms) (m : MC) (S : Nat → Prop) (w : World) (h : MsAt w S M m) (hop : M.op = 4) :
    Calls Tryd.prog 37 #[.agg m.cells] w (TellsQ (true) w) := by
  obtain ⟨p, hp⟩ : ∃ p, p = (true) := ⟨_, rfl⟩
  rw [← hp]
  have HP := Lib.hid hp
  obtain ⟨f, at', li, mo, de, co, rfl, hfit, hfl, hat, hli, hmo, hde, hco⟩ := h
  obtain ⟨cs, hcs⟩ : ∃ cs, cs = (M.mc f at' li mo de co).cells := ⟨_, rfl⟩
  have c1 : cs[1]? = some (.int .i64 (4)) := by rw [hcs, ← hop]; rfl
  rw [← hcs]
  have HB := Lib.hid ((Below.refl w.heap.size w).alloc (Nat.le_refl _) (.cells cs 30))
  clear hp hcs hop hfit hfl hat hli hmo hde hco
  go_enter Tryd.func37, Tryd.ntmps37
  go_wp2_with fail
  go_ret
  exact tellsQ_of HP.out HB.out
set_option maxHeartbeats 4000000 in
theorem rng_free8 (M : Ms) (m : MC) (S : Nat → Prop) (w : World) (h : MsAt w S M m) (hop : M.op = 8) :
    Calls Tryd.prog 37 #[.agg m.cells] w (TellsQ (true) w) := by
  obtain ⟨p, hp⟩ : ∃ p, p = (true) := ⟨_, rfl⟩
  rw [← hp]
  have HP := Lib.hid hp
  obtain ⟨f, at', li, mo, de, co, rfl, hfit, hfl, hat, hli, hmo, hde, hco⟩ := h
  obtain ⟨cs, hcs⟩ : ∃ cs, cs = (M.mc f at' li mo de co).cells := ⟨_, rfl⟩
  have c1 : cs[1]? = some (.int .i64 (8)) := by rw [hcs, ← hop]; rfl
  rw [← hcs]
  have HB := Lib.hid ((Below.refl w.heap.size w).alloc (Nat.le_refl _) (.cells cs 30))
  clear hp hcs hop hfit hfl hat hli hmo hde hco
  go_enter Tryd.func37, Tryd.ntmps37
  go_wp2_with fail
  go_ret
  exact tellsQ_of HP.out HB.out
set_option maxHeartbeats 4000000 in
theorem rng_free10 (M : Ms) (m : MC) (S : Nat → Prop) (w : World) (h : MsAt w S M m) (hop : M.op = 10) :
    Calls Tryd.prog 37 #[.agg m.cells] w (TellsQ (true) w) := by
  obtain ⟨p, hp⟩ : ∃ p, p = (true) := ⟨_, rfl⟩
  rw [← hp]
  have HP := Lib.hid hp
  obtain ⟨f, at', li, mo, de, co, rfl, hfit, hfl, hat, hli, hmo, hde, hco⟩ := h
  obtain ⟨cs, hcs⟩ : ∃ cs, cs = (M.mc f at' li mo de co).cells := ⟨_, rfl⟩
  have c1 : cs[1]? = some (.int .i64 (10)) := by rw [hcs, ← hop]; rfl
  rw [← hcs]
  have HB := Lib.hid ((Below.refl w.heap.size w).alloc (Nat.le_refl _) (.cells cs 30))
  clear hp hcs hop hfit hfl hat hli hmo hde hco
  go_enter Tryd.func37, Tryd.ntmps37
  go_wp2_with fail
  go_ret
  exact tellsQ_of HP.out HB.out
set_option maxHeartbeats 4000000 in
theorem rng_free14 (M : Ms) (m : MC) (S : Nat → Prop) (w : World) (h : MsAt w S M m) (hop : M.op = 14) :
    Calls Tryd.prog 37 #[.agg m.cells] w (TellsQ (true) w) := by
  obtain ⟨p, hp⟩ : ∃ p, p = (true) := ⟨_, rfl⟩
  rw [← hp]
  have HP := Lib.hid hp
  obtain ⟨f, at', li, mo, de, co, rfl, hfit, hfl, hat, hli, hmo, hde, hco⟩ := h
  obtain ⟨cs, hcs⟩ : ∃ cs, cs = (M.mc f at' li mo de co).cells := ⟨_, rfl⟩
  have c1 : cs[1]? = some (.int .i64 (14)) := by rw [hcs, ← hop]; rfl
  rw [← hcs]
  have HB := Lib.hid ((Below.refl w.heap.size w).alloc (Nat.le_refl _) (.cells cs 30))
  clear hp hcs hop hfit hfl hat hli hmo hde hco
  go_enter Tryd.func37, Tryd.ntmps37
  go_wp2_with fail
  go_ret
  exact tellsQ_of HP.out HB.out
set_option maxHeartbeats 4000000 in
theorem rng_answer (M : Ms) (m : MC) (S : Nat → Prop) (w : World) (h : MsAt w S M m) (hop : M.op = M.op) (ha : AnsAt w) (hno : M.op ≠ 0 ∧ M.op ≠ 3 ∧ M.op ≠ 6 ∧ M.op ≠ 12 ∧ M.op ≠ 16 ∧ M.op ≠ 23 ∧ M.op ≠ 2 ∧ M.op ≠ 4 ∧ M.op ≠ 8 ∧ M.op ≠ 10 ∧ M.op ≠ 14) :
    Calls Tryd.prog 37 #[.agg m.cells] w (TellsQ (isAnsB M.op && inB M.code 0 127) w) := by
  obtain ⟨p, hp⟩ : ∃ p, p = (isAnsB M.op && inB M.code 0 127) := ⟨_, rfl⟩
  rw [← hp]
  have HP := Lib.hid hp
  obtain ⟨f, at', li, mo, de, co, rfl, hfit, hfl, hat, hli, hmo, hde, hco⟩ := h
  obtain ⟨cs, hcs⟩ : ∃ cs, cs = (M.mc f at' li mo de co).cells := ⟨_, rfl⟩
  have c1 : cs[1]? = some (.int .i64 (M.op)) := by rw [hcs]; rfl
  have c9 : cs[9]? = some (.int .i64 M.code) := by rw [hcs]; rfl
  rw [← hcs]
  have HB := Lib.hid ((Below.refl w.heap.size w).alloc (Nat.le_refl _) (.cells cs 30))
  obtain ⟨n0, n3, n6, n12, n16, n23, n2, n4, n8, n10, n14⟩ := hno
  have HA := Lib.hid (isAnswer_any M.op _ (ha.below HB.out))
  obtain ⟨op, hopp⟩ : ∃ op, op = M.op := ⟨_, rfl⟩
  rw [← hopp] at c1 HA n0 n3 n6 n12 n16 n23 n2 n4 n8 n10 n14
  have HOP := Lib.hid hopp
  have b0 : (op == 0) = false := by simp [n0]
  have b3 : (op == 3) = false := by simp [n3]
  have b6 : (op == 6) = false := by simp [n6]
  have b12 : (op == 12) = false := by simp [n12]
  have b16 : (op == 16) = false := by simp [n16]
  have b23 : (op == 23) = false := by simp [n23]
  have b2 : (op == 2) = false := by simp [n2]
  have b4 : (op == 4) = false := by simp [n4]
  have b8 : (op == 8) = false := by simp [n8]
  have b10 : (op == 10) = false := by simp [n10]
  have b14 : (op == 14) = false := by simp [n14]
  clear ha hopp n0 n3 n6 n12 n16 n23 n2 n4 n8 n10 n14
  clear hp hcs hop hfit hfl hat hli hmo hde hco
  go_enter Tryd.func37, Tryd.ntmps37
  go_wp2_with fail
  (go_at_call 56)
  refine HA.out.mono ?_
  cases hq : isAnsB op with
  | false =>
    rintro e w1 ⟨rfl, hb1⟩
    have HB1 := Lib.hid (HB.out.trans (hb1.mono HB.out.size))
    have HQ := Lib.hid hq
    clear hb1 hq
    go_wp2_with fail
    go_ret
    exact tellsQ_of (by rw [HP.out, ← HOP.out, HQ.out]; simp) HB1.out
  | true =>
    rintro e w1 ⟨rfl, hb1⟩
    have HB1 := Lib.hid (HB.out.trans (hb1.mono HB.out.size))
    have HQ := Lib.hid hq
    have hbx := bk_below (Bk.new w 30 cs) hb1
    have e9 : w1.cell? ⟨w.heap.size, 9, none⟩ = some (.int .i64 M.code) := (hbx.cell 9).trans c9
    clear hb1 hq hbx
    go_wp2_with fail
    (go_at_call 36)
    refine (within_any M.code 0 127 _).mono ?_
    cases ha : inB M.code 0 127 with
    | false =>
      rintro e w1 ⟨rfl, rfl⟩
      have Ha := Lib.hid ha
      clear ha
      go_wp2_with fail
      go_ret
      exact tellsQ_of (by rw [HP.out, ← HOP.out, HQ.out, Ha.out]; simp) HB1.out
    | true =>
      rintro e w1 ⟨rfl, rfl⟩
      have Ha := Lib.hid ha
      clear ha
      go_wp2_with fail
      go_ret
      exact tellsQ_of (by rw [HP.out, ← HOP.out, HQ.out, Ha.out]; simp) HB1.out

theorem all_take_succ {α : Type} (p : α → Bool) (l : List α) (k : Nat) (h : k < l.length) : (l.take (k + 1)).all p = ((l.take k).all p && p l[k]) := by
  rw [List.take_succ_eq_append_getElem h, List.all_append]
  simp
theorem all_drop {α : Type} (p : α → Bool) (l : List α) (k : Nat) (h : k < l.length) : (l.drop k).all p = (p l[k] && (l.drop (k + 1)).all p) := by
  rw [List.drop_eq_getElem_cons h, List.all_cons]
set_option maxHeartbeats 4000000 in
theorem rng_modify (M : Ms) (m : MC) (S : Nat → Prop) (w : World) (h : MsAt w S M m) (hop : M.op = 6) :
    Calls Tryd.prog 37 #[.agg m.cells] w (TellsQ (M.mods.all fun x => inB x.1 0 2) w) := by
  obtain ⟨p, hp⟩ : ∃ p, p = (M.mods.all fun x => inB x.1 0 2) := ⟨_, rfl⟩
  rw [← hp]
  have HP := Lib.hid hp
  obtain ⟨f, at', li, ⟨mA, mn, mc⟩, de, co, rfl, hfit, hfl, hat, hli, ⟨hm1, hm2, hm3, hm4⟩, hde, hco⟩ := h
  simp only at hm1 hm2 hm3 hm4
  subst hm1
  obtain ⟨cs, hcs⟩ : ∃ cs, cs = (M.mc f at' li ⟨mA, M.mods.length, mc⟩ de co).cells := ⟨_, rfl⟩
  have c1 : cs[1]? = some (.int .i64 6) := by rw [hcs, ← hop]; rfl
  have c25 : cs[25]? = some (.slice mA M.mods.length mc) := by rw [hcs]; rfl
  rw [← hcs]
  have hB := (Below.refl w.heap.size w).alloc (Nat.le_refl _) (.cells cs 30)
  have HB := Lib.hid hB
  have HM4 := Lib.hid hm4
  have hmm : mc ≤ 9223372036854775807 := by unfold maxLen at hm3; omega
  obtain ⟨ms, hms⟩ : ∃ ms, ms = M.mods := ⟨_, rfl⟩
  rw [← hms] at c25 HM4 HP hm2
  clear hp hcs hop hfit hfl hat hli hm3 hm4 hde hco hB hms
  go_enter Tryd.func37, Tryd.ntmps37
  go_wp2_with fail
  go_loopw [56] (fun i wr => ∃ j : Nat, i = .int .i64 j ∧ j ≤ ms.length ∧ Hid (p = (ms.drop j).all fun x => inB x.1 0 2) ∧ Below w.heap.size w wr) (fun i _ => ms.length - (intOf i).toNat)
  case atStart => exact ⟨0, rfl, Nat.zero_le _, HP.out, HB.out⟩
  case round =>
    obtain ⟨j, rfl, hj, HT, hbw⟩ := hrel
    have HBW := Lib.hid hbw
    by_cases hlt : j < ms.length
    · obtain ⟨b, o, c, rfl, hS, hc1, hcl, hfk⟩ := HM4.out j ms[j] (List.getElem?_eq_getElem hlt)
      obtain ⟨q, rfl, -, -⟩ := hfk
      have hbl : b < w.heap.size := hS.2
      have hcw : ∀ o', wr.cell? ⟨b, o', none⟩ = w.cell? ⟨b, o', none⟩ := fun o' => hbw.cell (p := ⟨b, o', none⟩) hbl
      have HAD := Lib.hid (all_drop (fun x : Md => inB x.1 0 2) ms j hlt)
      obtain ⟨n, hn⟩ : ∃ n, n = ms[j].1 := ⟨_, rfl⟩
      have q0 : wr.cell? ⟨b, o + j * 3, none⟩ = some (.int .i64 n) := by rw [hn]; exact (hcw _).trans (hcl 0 _ rfl)
      have q1 : wr.cell? ⟨b, o + j * 3 + 1, none⟩ = some (.string ms[j].2.1) := (hcw _).trans (hcl 1 _ rfl)
      have q2 : wr.cell? ⟨b, o + j * 3 + 2, none⟩ = some (.slice q.A q.n q.c) := (hcw _).trans (hcl 2 _ rfl)
      obtain ⟨s, hs⟩ : ∃ s, s = ms[j].2.1 := ⟨_, rfl⟩
      rw [← hs] at q1
      simp only [← hn] at HAD
      have z4 : decide (j < ms.length) = true := decide_eq_true hlt
      have hbr : b < wr.heap.size := Nat.lt_of_lt_of_le hbl hbw.size
      have HBA := Lib.hid (hbw.trans (((Below.refl wr.heap.size wr).alloc (Nat.le_refl _) (.cells #[.int .i64 n, .string s, .slice q.A q.n q.c] 54)).mono hbw.size))
      clear hn hs hS hc1 hcl hcw hbw
      go_wp2_with fail
      (go_at_call 36)
      refine (within_any n 0 2 _).mono ?_
      cases hin : inB n 0 2 with
      | false =>
        rintro e w1 ⟨rfl, rfl⟩
        have HI := Lib.hid hin
        clear hin
        go_wp2_with fail
        go_ret
        exact tellsQ_of (by rw [HT.out, HAD.out, HI.out]; rfl) HBA.out
      | true =>
        rintro e w1 ⟨rfl, rfl⟩
        have HI := Lib.hid hin
        clear hin
        go_wp2_with fail
        go_roundw
        case rel => exact ⟨j + 1, by go_num, by omega, show _ = _ by rw [HT.out, HAD.out, HI.out]; rfl, HBA.out⟩
        case measure => simp [intOf]; omega
    · obtain rfl : j = ms.length := by omega
      have z4 : decide (ms.length < ms.length) = false := by simp
      clear hbw
      go_wp2_with fail
      go_ret
      exact tellsQ_of (by rw [HT.out, List.drop_length]; rfl) HBW.out
/-- Are the numbers of an operation as they may be? -/
def Ms.ranged (M : Ms) : Bool :=
  if M.op = 0 then inB M.version 1 127 && (M.has || (!M.sasl || !fullB M.value))
  else if M.op = 3 then inB M.scope 0 2 && (inB M.deref 0 3 && (inB M.size 0 2147483647 && (inB M.time 0 2147483647 && M.filter.right)))
  else if M.op = 6 then M.mods.all fun x => inB x.1 0 2
  else if M.op = 12 then decide (M.dest.length ≤ 1)
  else if M.op = 16 then inB M.other 0 2147483647
  else if M.op = 23 then M.has || !fullB M.value
  else if M.op = 2 ∨ M.op = 4 ∨ M.op = 8 ∨ M.op = 10 ∨ M.op = 14 then true
  else isAnsB M.op && inB M.code 0 127
theorem ranged_any (M : Ms) (m : MC) (S : Nat → Prop) (w : World) (h : MsAt w S M m) (ha : AnsAt w) : Calls Tryd.prog 37 #[.agg m.cells] w (TellsQ M.ranged w) := by
  unfold Ms.ranged
  by_cases h0 : M.op = 0
  · rw [if_pos h0]; exact rng_bind M m S w h h0
  rw [if_neg h0]
  by_cases h3 : M.op = 3
  · rw [if_pos h3]; exact rng_search M m S w h h3
  rw [if_neg h3]
  by_cases h6 : M.op = 6
  · rw [if_pos h6]; exact rng_modify M m S w h h6
  rw [if_neg h6]
  by_cases h12 : M.op = 12
  · rw [if_pos h12]; exact rng_rename M m S w h h12
  rw [if_neg h12]
  by_cases h16 : M.op = 16
  · rw [if_pos h16]; exact rng_abandon M m S w h h16
  rw [if_neg h16]
  by_cases h23 : M.op = 23
  · rw [if_pos h23]; exact rng_ext M m S w h h23
  rw [if_neg h23]
  by_cases h2 : M.op = 2
  · rw [if_pos (by omega)]; exact rng_free2 M m S w h h2
  by_cases h4 : M.op = 4
  · rw [if_pos (by omega)]; exact rng_free4 M m S w h h4
  by_cases h8 : M.op = 8
  · rw [if_pos (by omega)]; exact rng_free8 M m S w h h8
  by_cases h10 : M.op = 10
  · rw [if_pos (by omega)]; exact rng_free10 M m S w h h10
  by_cases h14 : M.op = 14
  · rw [if_pos (by omega)]; exact rng_free14 M m S w h h14
  rw [if_neg (by omega)]
  exact rng_answer M m S w h rfl ha ⟨h0, h3, h6, h12, h16, h23, h2, h4, h8, h10, h14⟩
end Go.Proofs.YtbiglfpikfjbpaaDoor
