/- A message's reader: the parts of any operation. -/
import Derived.Test.YtbiglfpikfjbpaaDoorMsgParts2
import Derived.Test.YtbiglfpikfjbpaaDoorMsgParts3
namespace Go.Proofs.YtbiglfpikfjbpaaDoor
open Go.RowKit
set_option maxRecDepth 100000
set_option linter.unusedVariables false
set_option linter.unusedSimpArgs false

theorem parts_bind (id : Int) (b g : Nat) (v : Value) (ks : List Tl) (S : Nat → Prop) (w : World) (F : Fix S b g w.heap.size) (hb : Bk w b 75 #[v]) (hr : TRow w S v ks) (hg : Bk w g 30 (MC.base id 0).cells) :
    Calls Tryd.prog 51 #[.pointer (some ⟨b, 0, none⟩), .pointer (some ⟨g, 0, none⟩)] w (RdM b g S (bindP id ks) w) := by
  have HC := Lib.hid (readBind_any id b g v ks S w F hb hr hg)
  have c1 : w.cell? ⟨g, 1, none⟩ = some (.int .i64 0) := hg.cell 1
  clear F hb hr hg
  go_enter Tryd.func51, Tryd.ntmps51
  go_wp2_with fail
  (go_at_call 74)
  refine HC.out.mono ?_
  rintro e w1 ⟨ho, hcs⟩
  rcases hcs with ⟨hn, rfl, hold⟩ | ⟨M, rest, v', m, hn, rfl, h⟩
  · exact ⟨rfl, ho, .inl ⟨hn, rfl, hold⟩⟩
  · have HO := Lib.hid ho
    have HN := Lib.hid hn
    have H := Lib.hid h
    clear ho hn h
    go_wp2_with fail
    go_end0
    exact ⟨HO.out, .inr ⟨M, rest, v', m, HN.out, rfl, H.out⟩⟩
theorem parts_search (id : Int) (b g : Nat) (v : Value) (ks : List Tl) (S : Nat → Prop) (w : World) (F : Fix S b g w.heap.size) (hb : Bk w b 75 #[v]) (hr : TRow w S v ks) (hg : Bk w g 30 (MC.base id 3).cells) (hfew : Few ks) :
    Calls Tryd.prog 51 #[.pointer (some ⟨b, 0, none⟩), .pointer (some ⟨g, 0, none⟩)] w (RdM b g S (seaP id ks) w) := by
  have HC := Lib.hid (search_any id b g v ks S w F hb hr hg hfew)
  have c1 : w.cell? ⟨g, 1, none⟩ = some (.int .i64 3) := hg.cell 1
  clear F hb hr hg hfew
  go_enter Tryd.func51, Tryd.ntmps51
  go_wp2_with fail
  (go_at_call 75)
  refine HC.out.mono ?_
  rintro e w1 ⟨ho, hcs⟩
  rcases hcs with ⟨hn, rfl, hold⟩ | ⟨M, rest, v', m, hn, rfl, h⟩
  · exact ⟨rfl, ho, .inl ⟨hn, rfl, hold⟩⟩
  · have HO := Lib.hid ho
    have HN := Lib.hid hn
    have H := Lib.hid h
    clear ho hn h
    go_wp2_with fail
    go_end0
    exact ⟨HO.out, .inr ⟨M, rest, v', m, HN.out, rfl, H.out⟩⟩
set_option maxHeartbeats 4000000 in
theorem parts_answer (id op : Int) (b g : Nat) (v : Value) (ks : List Tl) (S : Nat → Prop) (w : World) (F : Fix S b g w.heap.size) (hb : Bk w b 75 #[v]) (hr : TRow w S v ks) (hg : Bk w g 30 (MC.base id op).cells) (ha : AnsAt w)
    (h0 : op ≠ 0) (h3 : op ≠ 3) (h4 : op ≠ 4) (h8 : op ≠ 8) (h6 : op ≠ 6) (h12 : op ≠ 12) (h14 : op ≠ 14) (h23 : op ≠ 23) :
    Calls Tryd.prog 51 #[.pointer (some ⟨b, 0, none⟩), .pointer (some ⟨g, 0, none⟩)] w (RdM b g S (ansP id op ks) w) := by
  have HC := Lib.hid (readAnswer_any id op b g v ks S w F hb hr hg ha)
  have c1 : w.cell? ⟨g, 1, none⟩ = some (.int .i64 op) := hg.cell 1
  clear F hb hr hg ha
  have q0 : (op == 0) = false := by simpa using h0
  have q3 : (op == 3) = false := by simpa using h3
  have q4 : (op == 4) = false := by simpa using h4
  have q8 : (op == 8) = false := by simpa using h8
  have q6 : (op == 6) = false := by simpa using h6
  have q12 : (op == 12) = false := by simpa using h12
  have q14 : (op == 14) = false := by simpa using h14
  have q23 : (op == 23) = false := by simpa using h23
  clear h0 h3 h4 h8 h6 h12 h14 h23
  go_enter Tryd.func51, Tryd.ntmps51
  go_wp2_with fail
  (go_at_call 77)
  refine HC.out.mono ?_
  rintro e w1 ⟨ho, hcs⟩
  rcases hcs with ⟨hn, rfl, hold⟩ | ⟨M, rest, v', m, hn, rfl, h⟩
  · exact ⟨rfl, ho, .inl ⟨hn, rfl, hold⟩⟩
  · have HO := Lib.hid ho
    have HN := Lib.hid hn
    have H := Lib.hid h
    clear ho hn h
    go_wp2_with fail
    go_end0
    exact ⟨HO.out, .inr ⟨M, rest, v', m, HN.out, rfl, H.out⟩⟩
/-- What an operation has. -/
def partsP (id op : Int) (ks : List Tl) : Option (Ms × List Tl) :=
  if op = 0 then bindP id ks else if op = 3 then seaP id ks else if op = 4 ∨ op = 8 then entP id op ks else if op = 6 then modP id ks else if op = 12 then renP id ks else if op = 14 then cmpP id ks else if op = 23 then extP id ks else ansP id op ks
theorem parts_any (id op : Int) (b g : Nat) (v : Value) (ks : List Tl) (S : Nat → Prop) (w : World) (F : Fix S b g w.heap.size) (hb : Bk w b 75 #[v]) (hr : TRow w S v ks) (hg : Bk w g 30 (MC.base id op).cells) (hfew : Few ks) (ha : AnsAt w) :
    Calls Tryd.prog 51 #[.pointer (some ⟨b, 0, none⟩), .pointer (some ⟨g, 0, none⟩)] w (RdM b g S (partsP id op ks) w) := by
  by_cases h0 : op = 0
  · subst h0; exact parts_bind id b g v ks S w F hb hr hg
  by_cases h3 : op = 3
  · subst h3; exact parts_search id b g v ks S w F hb hr hg hfew
  by_cases h4 : op = 4
  · subst h4; exact parts_entry id b g v ks S w F hb hr hg hfew
  by_cases h8 : op = 8
  · subst h8; exact parts_add id b g v ks S w F hb hr hg hfew
  by_cases h6 : op = 6
  · subst h6; exact parts_modify id b g v ks S w F hb hr hg hfew
  by_cases h12 : op = 12
  · subst h12; exact parts_rename id b g v ks S w F hb hr hg
  by_cases h14 : op = 14
  · subst h14; exact parts_compare id b g v ks S w F hb hr hg
  by_cases h23 : op = 23
  · subst h23; exact parts_ext id b g v ks S w F hb hr hg
  have e : partsP id op ks = ansP id op ks := by unfold partsP; rw [if_neg h0, if_neg h3, if_neg (by omega), if_neg h6, if_neg h12, if_neg h14, if_neg h23]
  rw [e]
  exact parts_answer id op b g v ks S w F hb hr hg ha h0 h3 h4 h8 h6 h12 h14 h23
end Go.Proofs.YtbiglfpikfjbpaaDoor
