/- A message's reader: the parts of answers. -/
import Derived.Test.YtbiglfpikfjbpaaDoorMsgFilter3
import Derived.Test.YtbiglfpikfjbpaaDoorMsgAnswer
import Derived.Test.YtbiglfpikfjbpaaDoorMsgEmpty
namespace Go.Proofs.YtbiglfpikfjbpaaDoor
open Go.RowKit
set_option maxRecDepth 100000
set_option linter.unusedVariables false
set_option linter.unusedSimpArgs false

def ansP (id op : Int) (ks : List Tl) : Option (Ms × List Tl) :=
  if isAnsB op then (numP 10 0 127 ks).bind fun a => (textP a.2).bind fun b => (textP b.2).bind fun c => match headP 2 10 false c.2 with
    | some (h, rest) => if op == 24 && fullB h.body then some ({ Ms.base id op with code := a.1, name := b.1, text := c.1, kind := h.body }, rest) else none
    | none => some ({ Ms.base id op with code := a.1, name := b.1, text := c.1 }, c.2)
  else none
set_option maxHeartbeats 4000000 in
theorem readAnswer_any (id op : Int) (b g : Nat) (v : Value) (ks : List Tl) (S : Nat → Prop) (w : World) (F : Fix S b g w.heap.size) (hb : Bk w b 75 #[v]) (hr : TRow w S v ks) (hg : Bk w g 30 (MC.base id op).cells) (ha : AnsAt w) :
    Calls Tryd.prog 77 #[.pointer (some ⟨b, 0, none⟩), .pointer (some ⟨g, 0, none⟩)] w (RdM b g S (ansP id op ks) w) := by
  have HF := Lib.hid F
  have HA := Lib.hid ha
  have c1 : w.cell? ⟨g, 1, none⟩ = some (.int .i64 op) := hg.cell 1
  have HS := Lib.hid (show St w S b g 30 w v ks (MC.base id op).cells from ⟨Off.refl _ _, hb, hr, hg⟩)
  clear hb hr hg F ha
  go_enter Tryd.func77, Tryd.ntmps77
  (go_wp2_with fail)
  (go_at_call 56)
  refine (isAnswer_any op _ HA.out).mono ?_
  cases hq : isAnsB op with
  | false =>
    rintro e w1 ⟨rfl, hb1⟩
    have hs1 := HS.out.quiet HF.out (Off.of_below hb1 []) (by simp)
    have HQ := Lib.hid hq
    clear hq
    go_wp2_with fail
    exact ⟨rfl, hs1.off, .inl ⟨by simp [ansP, HQ.out], rfl, ⟨_, hs1.ms, rfl⟩⟩⟩
  | true =>
    rintro e w1 ⟨rfl, hb1⟩
    have hs1 := HS.out.quiet HF.out (Off.of_below hb1 []) (by simp)
    have HS1 := Lib.hid hs1
    have HQ := Lib.hid hq
    have c1 : w1.cell? ⟨g, 1, none⟩ = some (.int .i64 op) := hs1.cell 1
    clear hq hs1 hb1 HS
    go_wp2_with fail
    (go_at_call 28)
    refine (num_any 10 0 127 b v ks S _ HS1.out.row HS1.out.tr HF.out.nb).mono ?_
    rintro e w2 ⟨ho, hcs⟩
    rcases hcs with ⟨hn, rfl⟩ | ⟨n2, rest2, v2, hn, rfl, hb2, hr2⟩
    · exact ⟨rfl, HS1.out.off.trans (ho.mono (by simp)), .inl ⟨by simp [ansP, HQ.out, hn], rfl, ⟨_, ho.bk HS1.out.ms (by simpa using HF.out.ne.symm), rfl⟩⟩⟩
    have HN2 := Lib.hid hn
    have hs2 := HS1.out.rd HF.out ho hb2 hr2
    have HS2 := Lib.hid hs2
    clear ho hb2 hr2 hn hs2 HS1 
    have q2_9 : w2.cell? ⟨g, 9, none⟩ = some (.int .i64 0) := HS2.out.cell 9
    have f2_9 := HS2.out.frozen 9
    have hp2 := (HS2.out.put HF.out 9 (.int .i64 n2))
    rw [MC.put_code] at hp2
    have HP2 := Lib.hid (hp2)
    clear hp2 HS2
    go_wp2_with fail
    (go_at_call 53)
    refine (text_any b v2 rest2 S _ HP2.out.row HP2.out.tr HF.out.nb).mono ?_
    rintro e w3 ⟨ho, hcs⟩
    rcases hcs with ⟨hn, rfl⟩ | ⟨n3, rest3, v3, hn, ⟨hz3, rfl⟩, hb3, hr3⟩
    · exact ⟨rfl, HP2.out.off.trans (ho.mono (by simp)), .inl ⟨by simp [ansP, HQ.out, HN2.out, hn], rfl, ⟨_, ho.bk HP2.out.ms (by simpa using HF.out.ne.symm), rfl⟩⟩⟩
    have HN3 := Lib.hid hn
    have HZ3 := Lib.hid hz3
    have hs3 := HP2.out.rd HF.out ho hb3 hr3
    have HS3 := Lib.hid hs3
    clear ho hb3 hr3 hn hs3 HP2 q2_9 f2_9 hz3
    go_wp2_with fail
    (go_at_call 53)
    refine (text_any b v3 rest3 S _ HS3.out.row HS3.out.tr HF.out.nb).mono ?_
    rintro e w4 ⟨ho, hcs⟩
    rcases hcs with ⟨hn, rfl⟩ | ⟨n4, rest4, v4, hn, ⟨hz4, rfl⟩, hb4, hr4⟩
    · exact ⟨rfl, HS3.out.off.trans (ho.mono (by simp)), .inl ⟨by simp [ansP, HQ.out, HN2.out, HN3.out, hn], rfl, ⟨_, ho.bk HS3.out.ms (by simpa using HF.out.ne.symm), rfl⟩⟩⟩
    have HN4 := Lib.hid hn
    have HZ4 := Lib.hid hz4
    have hs4 := HS3.out.rd HF.out ho hb4 hr4
    have HS4 := Lib.hid hs4
    clear ho hb4 hr4 hn hs4 HS3 hz4
    have c4 : w4.cell? ⟨g, 1, none⟩ = some (.int .i64 op) := HS4.out.cell 1
    have gl4 := HS4.out.ms.lt
    have q4_3 : w4.cell? ⟨g, 3, none⟩ = some (.string ⟨#[]⟩) := HS4.out.cell 3
    have f4_3 := HS4.out.frozen 3
    have q4_10 : w4.cell? ⟨g, 10, none⟩ = some (.string ⟨#[]⟩) := HS4.out.cell 10
    have f4_10 := HS4.out.frozen 10
    have hp4 := ((HS4.out.put HF.out 3 (.string n3)).put HF.out 10 (.string n4))
    rw [MC.put_name, MC.put_text] at hp4
    have HP4 := Lib.hid (hp4)
    clear hp4 HS4
    go_wp2_with fail
    (go_at_call 30)
    refine (may_r b v4 rest4 S 2 10 false _ HP4.out.row HP4.out.tr HF.out.nb).mono ?_
    rintro e w5 ⟨ho, hcs⟩
    rcases hcs with ⟨hn, rfl, hb5, hr5⟩ | ⟨s5, l5, rest5, A5, cap5, v5, hn, hz5, rfl, hb5, hr5, hk5⟩
    · have HN5 := Lib.hid hn
      have hs5 := HP4.out.rd HF.out ho hb5 hr5
      have gl5 := hs5.ms.lt
      have HS5 := Lib.hid (hs5.new (.cells #[.int .i64 0, .bool false, .int .i64 0, .string ⟨#[]⟩, .slice none 0 0] 38))
      clear ho hb5 hr5 hn hs5 HP4 q4_3 f4_3 q4_10 f4_10
      go_wp2_with fail
      go_end0
      refine ⟨HS5.out.off, .inr ⟨_, rest4, v4, _, by simp only [ansP, HQ.out, if_true, HN2.out, HN3.out, HN4.out, HN5.out, Option.bind_some]; rfl, rfl, HS5.out.row, HS5.out.tr, HS5.out.ms, ?_⟩⟩
      exact MsAt.flat rfl rfl rfl rfl rfl rfl ⟨HZ3.out, Nat.zero_le _, Nat.zero_le _, Nat.zero_le _, HZ4.out, Nat.zero_le _⟩
    · have HN5 := Lib.hid hn
      have hs5 := HP4.out.rd HF.out ho hb5 hr5
      have gl5 := hs5.ms.lt
      have HZ5 := Lib.hid hz5
      have HS5 := Lib.hid hs5
      have HK5 := Lib.hid hk5
      clear ho hb5 hr5 hn hs5 hz5 hk5 HP4 q4_3 f4_3 q4_10 f4_10
      have c5 : w5.cell? ⟨g, 1, none⟩ = some (.int .i64 op) := HS5.out.cell 1
      obtain ⟨z1, hz1⟩ : ∃ z, z = (op == 24) := ⟨_, rfl⟩
      have HO := Lib.hid hz1
      cases z1 with
      | false =>
        have h24 : (op == 24) = false := hz1.symm
        clear hz1
        go_wp2_with fail
        exact ⟨rfl, (HS5.out.new _).off, .inl ⟨by simp only [ansP, HQ.out, if_true, HN2.out, Option.bind_some, HN3.out, HN4.out, HN5.out, ← HO.out, Tl.body, Bool.false_and, Bool.true_and, Bool.false_eq_true, if_false], rfl, ⟨_, (HS5.out.new _).ms, rfl⟩⟩⟩
      | true =>
        have h24 : (op == 24) = true := hz1.symm
        clear hz1
        cases hf : s5.toList.isEmpty with
        | true =>
          have hf1 : (!s5.toList.isEmpty) = false := by rw [hf]; rfl
          have hf2 : s5.toList = [] := by simpa using hf
          have HFB := Lib.hid (show fullB s5 = false from hf1)
          clear hf
          go_wp2_with fail
          exact ⟨rfl, (HS5.out.new _).off, .inl ⟨by simp only [ansP, HQ.out, if_true, HN2.out, Option.bind_some, HN3.out, HN4.out, HN5.out, ← HO.out, Tl.body, Bool.false_and, Bool.true_and, Bool.false_eq_true, if_false, HFB.out], rfl, ⟨_, (HS5.out.new _).ms, rfl⟩⟩⟩
        | false =>
          have hf1 : (!s5.toList.isEmpty) = true := by rw [hf]; rfl
          have HFB := Lib.hid (show fullB s5 = true from hf1)
          clear hf
          have q5_6 : w5.cell? ⟨g, 6, none⟩ = some (.string ⟨#[]⟩) := HS5.out.cell 6
          have f5_6 := HS5.out.frozen 6
          have hp5 := (HS5.out.put HF.out 6 (.string s5))
          rw [MC.put_kind] at hp5
          have HP5 := Lib.hid (hp5.new (.cells #[.int .i64 2, .bool false, .int .i64 10, .string s5, .slice A5 l5.length cap5] 38))
          clear hp5 HS5
          go_wp2_with fail
          go_end0
          refine ⟨HP5.out.off, .inr ⟨_, rest5, v5, _, by simp only [ansP, HQ.out, if_true, HN2.out, Option.bind_some, HN3.out, HN4.out, HN5.out, ← HO.out, Tl.body, Bool.false_and, Bool.true_and, Bool.false_eq_true, if_false, HFB.out]; rfl, rfl, HP5.out.row, HP5.out.tr, HP5.out.ms, ?_⟩⟩
          exact MsAt.flat rfl rfl rfl rfl rfl rfl ⟨HZ3.out, Nat.zero_le _, HZ5.out, Nat.zero_le _, HZ4.out, Nat.zero_le _⟩

end Go.Proofs.YtbiglfpikfjbpaaDoor
