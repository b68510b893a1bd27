/- Contract of msg.Decode, part one: what is caught, and the results. -/
import Derived.Test.YtbiglfpikfjbpaaDoorMsgEmpty
import Derived.Test.YtbiglfpikfjbpaaDoorMsgMust
import Derived.Test.YtbiglfpikfjbpaaDoorMsgBare
import Derived.Defers
import Derived.Recover
namespace Go.Proofs.YtbiglfpikfjbpaaDoor
open Go.RowKit
open Go.PlainAid
set_option linter.unusedVariables false
set_option linter.unusedSimpArgs false

/-- The two results of Decode in memory. -/
def Two (w : World) (b : Nat) (cs : Array Value) (er : Int) : Prop := Bk w b 30 cs ∧ Bk w (b + 1) 33 #[.int .i64 er]
theorem assert_troubleM (W : World) : (Instr.typeAssert (.iface 72 (.agg #[])) 20 72 false).run Tryd.prog W = .ok (.agg #[]) W := by kernel_rfl
theorem Two.drew {w : World} {b : Nat} {cs : Array Value} {er : Int} (h : Two w b cs er) : Two w.drew b cs er := h
set_option maxRecDepth 100000 in
theorem mdec_catch (b : Nat) (old : Array Value) (e0 : Int) (w : World) (h : Two w b old e0) (hsz : old.size = 31) :
    CallsD Tryd.prog 27 #[.pointer (some ⟨b, 0, none⟩), .pointer (some ⟨b + 1, 0, none⟩)] (.panicking [{ v := .iface 72 (.agg #[]), recovered := false }]) w fun e u' w' =>
      e = .returned (.tuple #[]) ∧ u' = .panicking [{ v := .iface 72 (.agg #[]), recovered := true }] ∧ Two w' b MC.zero.cells 4 ∧ Off [b, b + 1] w w' := by
  have HS := Lib.hid size_msg
  obtain ⟨h0, h1⟩ := h
  have H0 := Lib.hid h0
  have H1 := Lib.hid h1
  have y : w.cell? ⟨b + 1, 0, none⟩ = some (.int .i64 e0) := h1.cell 0
  have fy := h1.frozen 0
  have HSZ := Lib.hid hsz
  have hta := assert_troubleM
  obtain ⟨z, hz⟩ : ∃ z, z = MC.zero.cells := ⟨_, rfl⟩
  have HZ : Hid (z.all (·.oneCell') = true) := by rw [hz]; exact msg_one _
  have HZSZ : Hid (z.size = 31) := by rw [hz]; rfl
  rw [← hz]
  have HZE := Lib.hid hz
  clear h0 h1 hsz hz
  refine callsD_of_wpS Tryd.func27 rfl fun c₀ cs hu => ?_
  apply wpS_seq
  apply wpS_region
  simp [wpOpsS, go_sem, recoverD, hu, Tryd.ntmps27, Exit.thenS]
  refine wpS_of_wp ?_
  have e1 : (#[Value.pointer (some { block := b, off := 0 }), Value.pointer (some { block := b + 1, off := 0 })] ++
          ((Array.replicate 7 undef).setIfInBounds 1 (Value.iface 72 (.agg #[]))).setIfInBounds 0 (Value.iface 72 (.agg #[])) : Array Value) =
      #[Value.pointer (some { block := b, off := 0 }), Value.pointer (some { block := b + 1, off := 0 }), Value.iface 72 (.agg #[]), Value.iface 72 (.agg #[]), undef, undef, undef, undef, undef] := rfl
  rw [e1]
  clear e1
  go_wp2_with (first
      | (refine wpList_store_wide rfl 30 (.tmp 0) (.tmp 8) rfl b rfl z (by rw [HZE.out]; rfl) 30 _ H0.out (by rw [HSZ.out, HZSZ.out]) (by rw [HZSZ.out]; exact HS.out) HZ.out ?_; intro w3 hb3 ho3; have HB3 := Lib.hid hb3; have HO3 := Lib.hid ho3; have y3 : w3.cell? ⟨b + 1, 0, none⟩ = some (.int .i64 e0) := (ho3.bk H1.out (by simp)).cell 0; have f3 := (ho3.bk H1.out (by simp)).frozen 0; have HY3 := Lib.hid (ho3.bk H1.out (by simp)); clear hb3 ho3)
      | fail)
  refine ⟨rfl, _, rfl, .tuple #[], ?_, rfl, rfl, ⟨?_, ?_⟩, ?_⟩
  · simp [results, Tryd.results27]
  · exact HB3.out.far (p := ⟨b + 1, 0, none⟩) (by simp) _
  · have := HY3.out.put 0 (.int .i64 4)
    simpa using this
  · exact (HO3.out.mono (by simp)).setCell (.inl (by simp)) _
set_option maxRecDepth 100000 in
theorem mdec_idle (a b : Value) (w : World) :
    CallsD Tryd.prog 27 #[a, b] .returning w fun e u' w' => e = .returned (.tuple #[]) ∧ u' = .returning ∧ w' = w := by
  refine callsD_of_wpS Tryd.func27 rfl fun c₀ cs hu => ?_
  apply wpS_seq
  apply wpS_region
  simp [wpOpsS, go_sem, recoverD, hu, Tryd.ntmps27, Exit.thenS]
  refine wpS_of_wp ?_
  have e1 : (#[a, b] ++ ((Array.replicate 7 undef).setIfInBounds 1 Value.nilIface).setIfInBounds 0 Value.nilIface : Array Value) = #[a, b, Value.nilIface, Value.nilIface, undef, undef, undef, undef, undef] := rfl
  rw [e1]
  clear e1
  go_wp2_with fail
  refine ⟨rfl, .returning, ?_, .tuple #[], ?_, rfl, rfl, rfl⟩
  · cases c₀; simp_all
  · simp [results, Tryd.results27]
theorem mdec_results {tm : Array Value} {w : World} {b : Nat} {cs : Array Value} {er : Int} (h2 : tm[2]? = some (.pointer (some ⟨b, 0, none⟩))) (h3 : tm[3]? = some (.pointer (some ⟨b + 1, 0, none⟩)))
    (h : Two w b cs er) (hsz : cs.size = 31) : Sem.run Tryd.prog (results Tryd.f11 tm) w = .ok (.tuple #[.agg cs, .int .i64 er]) w := by
  obtain ⟨k0, k1⟩ := h
  have y := k1.cell 0
  simp at y
  have hl := run_loadVar_row (P := Tryd.prog) w b 30 30 cs (0, 0) _ k0 Tryd.underlying30 rfl (by rw [hsz]; exact size_msg)
  have hl2 : (loadVar 33 ⟨b + 1, 0, none⟩).run Tryd.prog w = .ok (.int .i64 er) w := by simp [go_sem, y]
  have h2' : tm[2]?.getD undef = .pointer (some ⟨b, 0, none⟩) := by rw [h2]; rfl
  have h3' : tm[3]?.getD undef = .pointer (some ⟨b + 1, 0, none⟩) := by rw [h3]; rfl
  simp [results, Tryd.results11, h2', h3', asAddr, hl, hl2]
end Go.Proofs.YtbiglfpikfjbpaaDoor
