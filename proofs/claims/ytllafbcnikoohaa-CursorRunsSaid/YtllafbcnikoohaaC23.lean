/- Merged by program: RCursor CursorDoes CursorPlays. -/
import Derived.Test.YtllafbcnikoohaaC22
/- The reference's cursor: To, Seek, Next, Prev, Pair. -/
namespace Go.Proofs.Ytllafbcnikoohaa
open Go.RowKit
set_option maxRecDepth 100000
set_option linter.unusedVariables false
set_option linter.unusedSimpArgs false
def atI : Option Nat → Int
  | none => -1
  | some i => i
def toO (n : Nat) (t : Int) : Option Nat := if 0 ≤ t ∧ t < n then some t.toNat else none
/-- The reference's cursor at block r: pairs at block g, a place. -/
structure RC (w : World) (B r g c : Nat) (L : List En) (o : Option Nat) : Prop where
  top : Bk w r 47 #[.slice (some ⟨g, 0, none⟩) L.length c, .int .i64 (atI o)]
  row : POwn w B (.slice (some ⟨g, 0, none⟩) L.length c) L
  ne : g ≠ r
  here : ∀ i, o = some i → i < L.length
theorem RC.below {w w' : World} {B r g c : Nat} {L : List En} {o : Option Nat} (h : RC w B r g c L o) (hb : Below w.heap.size w w') : RC w' B r g c L o := ⟨bk_below h.top hb, h.row.below hb, h.ne, h.here⟩
theorem RC.goes {w w' : World} {B B' r g c : Nat} {R : List Nat} {L : List En} {o : Option Nat} (h : RC w B r g c L o) (hg : Goes R B' w w') (h1 : g ∈ R) (h2 : r ∈ R) : RC w' B r g c L o := ⟨(hg.2 r h2 h.top.lt).trans h.top, h.row.goes h1 hg, h.ne, h.here⟩
theorem RC.put {w : World} {B r g c : Nat} {L : List En} {o : Option Nat} (h : RC w B r g c L o) (o' : Option Nat) (ho : ∀ i, o' = some i → i < L.length) : RC (w.setCell ⟨r, 1, none⟩ (.int .i64 (atI o'))) B r g c L o' :=
  ⟨h.top.put 1 _, ((Off.refl [r] w).setCell (p := ⟨r, 1, none⟩) (.inl (by simp)) _).own h.row (fun g' hg hm => by
    have e : g = g' := by simpa [Value.ownBlock] using hg
    rw [List.mem_singleton] at hm
    exact h.ne (e.trans hm)), h.ne, ho⟩
/-- What a move tells. -/
def RTo (B r g c : Nat) (L : List En) (o : Option Nat) (w : World) (e : Ending) (w' : World) : Prop := e = .returned (.bool o.isSome) ∧ Hid (Off [r] w w' ∧ RC w' B r g c L o)
theorem toO_lt {n : Nat} {t : Int} : ∀ i, toO n t = some i → i < n := fun i h => by
  unfold toO at h
  split at h
  · next h1 => injection h with h; omega
  · cases h
set_option maxHeartbeats 8000000 in
theorem rto_ok {w : World} {B r g c : Nat} {L : List En} {o : Option Nat} (h : RC w B r g c L o) (t : Int) :
    Calls Try.prog 32 #[.pointer (some ⟨r, 0, none⟩), .int .i64 t] w (RTo B r g c L (toO L.length t) w) := by
  have t0 := h.top.cell 0
  have t1 := h.top.cell 1
  have f1 := h.top.frozen 1
  have lr := h.top.lt
  have HP := Lib.hid (h.put (toO L.length t) toO_lt)
  have HO := Lib.hid (show ∀ v, Off [r] w (w.setCell ⟨r, 1, none⟩ v) from fun v => (Off.refl [r] w).setCell (p := ⟨r, 1, none⟩) (.inl (by simp)) _)
  by_cases h0 : t < 0
  · have z0 : decide (t < 0) = true := decide_eq_true h0
    have hto : toO L.length t = none := if_neg (by omega)
    rw [hto] at HP
    have HT := Lib.hid hto
    clear h hto
    go_enter Try.func32, Try.ntmps32
    go_wp2_with fail
    go_ret
    exact ⟨by rw [HT.out]; rfl, Lib.hid ⟨HO.out _, by rw [HT.out]; exact HP.out⟩⟩
  have z0 : decide (t < 0) = false := decide_eq_false h0
  by_cases h1 : (L.length : Int) ≤ t
  · have z1 : decide ((L.length : Int) ≤ t) = true := decide_eq_true h1
    have hto : toO L.length t = none := if_neg (by omega)
    rw [hto] at HP
    have HT := Lib.hid hto
    clear h hto
    go_enter Try.func32, Try.ntmps32
    go_wp2_with fail
    go_ret
    exact ⟨by rw [HT.out]; rfl, Lib.hid ⟨HO.out _, by rw [HT.out]; exact HP.out⟩⟩
  have z1 : decide ((L.length : Int) ≤ t) = false := decide_eq_false h1
  obtain ⟨tn, rfl⟩ : ∃ tn : Nat, t = (tn : Int) := ⟨t.toNat, by omega⟩
  have hto : toO L.length (tn : Int) = some tn := by
    unfold toO
    rw [if_pos (by omega)]
    rfl
  rw [hto] at HP
  have HT := Lib.hid hto
  have z2 : decide ((0 : Int) ≤ (tn : Int)) = true := decide_eq_true (by omega)
  clear h hto
  go_enter Try.func32, Try.ntmps32
  go_wp2_with fail
  go_ret
  exact ⟨by rw [HT.out]; rfl, Lib.hid ⟨HO.out _, by rw [HT.out]; exact HP.out⟩⟩
set_option maxHeartbeats 8000000 in
theorem rseek_ok {w : World} {B r g c : Nat} {L : List En} {o : Option Nat} (h : RC w B r g c L o) (hl : L.length ≤ 10000) (hk : ∀ e ∈ L, e.cell.key.size ≤ 1000) (key : ByteArray) :
    Calls Try.prog 33 #[.pointer (some ⟨r, 0, none⟩), .string key] w (RTo B r g c L (seekO L key) w) := by
  have t0 := h.top.cell 0
  have lr := h.top.lt
  have HAT := Lib.hid (pat_any h.row hl hk key)
  have HR := Lib.hid h
  have hto : toO L.length (Tr.spotE L key : Int) = seekO L key := by
    unfold toO seekO
    by_cases hs : Tr.spotE L key < L.length
    · rw [if_pos (by omega), if_pos hs]; rfl
    · rw [if_neg (by omega), if_neg hs]
  have HTO := Lib.hid hto
  obtain ⟨s, hs⟩ : ∃ s, s = Tr.spotE L key := ⟨_, rfl⟩
  rw [← hs] at HAT HTO
  clear h hto hs
  go_enter Try.func33, Try.ntmps33
  go_wp2_with fail
  refine HAT.out.mono ?_
  rintro e w1 ⟨rfl, hb1⟩
  have HB := Lib.hid hb1
  have HX := Lib.hid (rto_ok (HR.out.below hb1) (s : Int))
  rw [HTO.out] at HX
  clear hb1
  go_wp2_with fail
  refine HX.out.mono ?_
  rintro e w2 ⟨rfl, hx⟩
  have HE := Lib.hid (show Off [r] w w2 ∧ RC w2 B r g c L (seekO L key) from ⟨(Off.of_below HB.out [r]).trans hx.out.1, hx.out.2⟩)
  clear hx
  go_wp2_with fail
  go_ret
  exact ⟨rfl, HE⟩
set_option maxHeartbeats 8000000 in
theorem rnext_ok {w : World} {B r g c : Nat} {L : List En} {o : Option Nat} (h : RC w B r g c L o) (hl : L.length ≤ 10000) :
    Calls Try.prog 34 #[.pointer (some ⟨r, 0, none⟩)] w (RTo B r g c L (nextO L o) w) := by
  have t1 := h.top.cell 1
  have lr := h.top.lt
  cases o with
  | none =>
    have HR := Lib.hid h
    have t1' : w.cell? ⟨r, 1, none⟩ = some (.int .i64 (-1)) := t1
    clear h t1
    go_enter Try.func34, Try.ntmps34
    go_wp2_with fail
    go_ret
    exact ⟨rfl, Lib.hid ⟨Off.refl _ _, HR.out⟩⟩
  | some i =>
    have hi := h.here i rfl
    have t1' : w.cell? ⟨r, 1, none⟩ = some (.int .i64 (i : Int)) := t1
    have HX := Lib.hid (rto_ok h ((i : Int) + 1))
    have hto : toO L.length ((i : Int) + 1) = nextO L (some i) := by
      unfold toO nextO
      by_cases hs : i + 1 < L.length
      · rw [if_pos (by omega)]
        show some ((i : Int) + 1).toNat = if i + 1 < L.length then some (i + 1) else none
        rw [if_pos hs]
        rfl
      · rw [if_neg (by omega)]
        show none = if i + 1 < L.length then some (i + 1) else none
        rw [if_neg hs]
    rw [hto] at HX
    have z1 : decide ((i : Int) < 0) = false := decide_eq_false (by omega)
    clear h t1 hto
    go_enter Try.func34, Try.ntmps34
    go_wp2_with fail
    refine HX.out.mono ?_
    rintro e w2 ⟨rfl, hx⟩
    have HE := Lib.hid hx.out
    clear hx
    go_wp2_with fail
    go_ret
    exact ⟨rfl, HE⟩
set_option maxHeartbeats 8000000 in
theorem rprev_ok {w : World} {B r g c : Nat} {L : List En} {o : Option Nat} (h : RC w B r g c L o) (hl : L.length ≤ 10000) :
    Calls Try.prog 35 #[.pointer (some ⟨r, 0, none⟩)] w (RTo B r g c L (prevO o) w) := by
  have t1 := h.top.cell 1
  have lr := h.top.lt
  cases o with
  | none =>
    have HR := Lib.hid h
    have t1' : w.cell? ⟨r, 1, none⟩ = some (.int .i64 (-1)) := t1
    clear h t1
    go_enter Try.func35, Try.ntmps35
    go_wp2_with fail
    go_ret
    exact ⟨rfl, Lib.hid ⟨Off.refl _ _, HR.out⟩⟩
  | some i =>
    have hi := h.here i rfl
    have t1' : w.cell? ⟨r, 1, none⟩ = some (.int .i64 (i : Int)) := t1
    have HX := Lib.hid (rto_ok h ((i : Int) - 1))
    have hto : toO L.length ((i : Int) - 1) = prevO (some i) := by
      show toO L.length ((i : Int) - 1) = if i = 0 then none else some (i - 1)
      unfold toO
      by_cases hs : i = 0
      · rw [if_neg (by omega), if_pos hs]
      · rw [if_pos (by omega), if_neg hs]
        congr 1
        omega
    rw [hto] at HX
    have z1 : decide ((i : Int) < 0) = false := decide_eq_false (by omega)
    have hw : IntKind.i64.wrap ((i : Int) - 1) = (i : Int) - 1 := IntWalk.i64_in _ (by omega)
    clear h t1 hto
    go_enter Try.func35, Try.ntmps35
    go_wp2_with fail
    refine HX.out.mono ?_
    rintro e w2 ⟨rfl, hx⟩
    have HE := Lib.hid hx.out
    clear hx
    go_wp2_with fail
    go_ret
    exact ⟨rfl, HE⟩
/-- The pair that a place tells. -/
def pairKey (L : List En) : Option Nat → ByteArray
  | none => ⟨#[]⟩
  | some i => ((L[i]?).map (·.cell.key)).getD ⟨#[]⟩
def pairVal (L : List En) : Option Nat → ByteArray
  | none => ⟨#[]⟩
  | some i => ((L[i]?).map fun e => (⟨e.val.toArray⟩ : ByteArray)).getD ⟨#[]⟩
set_option maxHeartbeats 8000000 in
theorem rpair_ok {w : World} {B r g c : Nat} {L : List En} {o : Option Nat} (h : RC w B r g c L o) (hl : L.length ≤ 10000) :
    Calls Try.prog 36 #[.pointer (some ⟨r, 0, none⟩)] w (fun e w' => e = .returned (.agg #[.string (pairKey L o), .string (pairVal L o)]) ∧ Below w.heap.size w w') := by
  have t0 := h.top.cell 0
  have t1 := h.top.cell 1
  have lr := h.top.lt
  cases o with
  | none =>
    have t1' : w.cell? ⟨r, 1, none⟩ = some (.int .i64 (-1)) := t1
    clear h t1
    go_enter Try.func36, Try.ntmps36
    go_wp2_with fail
    exact bodyPost_ret (v := .agg #[.string ⟨#[]⟩, .string ⟨#[]⟩]) (by simp [results, Try.results36, go_sem]) rfl ⟨rfl, (Below.refl _ w).alloc (Nat.le_refl _) _⟩
  | some i =>
    have hi := h.here i rfl
    have t1' : w.cell? ⟨r, 1, none⟩ = some (.int .i64 (i : Int)) := t1
    obtain ⟨g', hg', lg, -, q0, q1⟩ := h.row.at i hi
    injection hg' with hg'
    injection hg' with hg'
    subst hg'
    have hk : pairKey L (some i) = (L[i]'hi).cell.key := by show ((L[i]?).map (·.cell.key)).getD ⟨#[]⟩ = _; rw [List.getElem?_eq_getElem hi]; rfl
    have hv : pairVal L (some i) = ⟨(L[i]'hi).val.toArray⟩ := by show ((L[i]?).map fun e => (⟨e.val.toArray⟩ : ByteArray)).getD ⟨#[]⟩ = _; rw [List.getElem?_eq_getElem hi]; rfl
    rw [← hk] at q0
    rw [← hv] at q1
    obtain ⟨k, hke⟩ : ∃ k, k = pairKey L (some i) := ⟨_, rfl⟩
    obtain ⟨v, hve⟩ : ∃ v, v = pairVal L (some i) := ⟨_, rfl⟩
    rw [← hke] at q0 ⊢
    rw [← hve] at q1 ⊢
    have z1 : decide ((i : Int) < 0) = false := decide_eq_false (by omega)
    have y1 : (0 : Int) ≤ (i : Int) := by omega
    have y2 : (i : Int) < (L.length : Int) := by omega
    clear h t1 hk hv hke hve
    go_enter Try.func36, Try.ntmps36
    go_wp2_with fail
    go_region
    all_goals
      go_wp2_with fail
      exact bodyPost_ret (v := .agg #[.string k, .string v]) (by simp [results, Try.results36, go_sem]) rfl ⟨rfl, ((Below.refl _ w).alloc (Nat.le_refl _) _).drew⟩
end Go.Proofs.Ytllafbcnikoohaa
/- The law's does: a call on both cursors. -/
namespace Go.Proofs.Ytllafbcnikoohaa
open Go.RowKit
set_option maxRecDepth 100000
set_option linter.unusedVariables false
set_option linter.unusedSimpArgs false
theorem CS.seek2 {h : Nat} {S : List Nat} {σ : Book} {c root : Nat} {R : List Nat} {L : List En} {B : Nat} {w : World} {U : List Nat} {o : Option Nat} (hc : CS h S σ c root R L B w U o) (hL : Whole σ root L) (key : ByteArray) : Calls Try.prog 11 #[.pointer (some ⟨c, 0, none⟩), .string key] w (fun e w' => e = .returned (.tuple #[.bool (seekO L key).isSome, .int .i64 0]) ∧ Hid (CSTo h S σ c root R L B w (seekO L key) w' ∧ Off U w w')) :=
  (seek_any (heap_serves h) hc.is hL key).mono fun e w' ⟨h1, h2⟩ => ⟨h1, Lib.hid ⟨hc.post h2, by obtain ⟨_, _, h, _⟩ := h2; exact h⟩⟩
theorem CS.off {h : Nat} {S : List Nat} {σ : Book} {c root : Nat} {R : List Nat} {L : List En} {B : Nat} {w w' : World} {U : List Nat} {o : Option Nat} (hc : CS h S σ c root R L B w U o) {r : Nat} (ho : Off [r] w w') (hr : r ∈ R) : CS h S σ c root R L B w' U o :=
  ⟨hc.is.off (heap_serves h) ho (fun b hb => by rw [List.mem_singleton] at hb; subst hb; exact hr), hc.base, Nat.le_trans hc.old ho.size⟩
def firstO (L : List En) : Option Nat := if L = [] then none else some 0
def lastO (L : List En) : Option Nat := if L = [] then none else some (L.length - 1)
theorem first_is (L : List En) : decide (L ≠ []) = (firstO L).isSome ∧ decide (L ≠ []) = (lastO L).isSome ∧ toO L.length 0 = firstO L ∧ toO L.length ((L.length : Int) - 1) = lastO L := by
  cases L with
  | nil => exact ⟨rfl, rfl, rfl, rfl⟩
  | cons x l =>
    refine ⟨rfl, rfl, ?_, ?_⟩
    · unfold toO firstO
      rw [if_pos (by simp)]
      rfl
    · unfold toO lastO
      rw [if_pos (by simp; omega), if_neg (by simp)]
      congr 1
      omega
theorem pair_key (L : List En) (o : Option Nat) : (cellAt L o).key = pairKey L o := by
  cases o with
  | none => rfl
  | some i =>
    show (((L[i]?).map (·.cell)).getD Ce.zero).key = ((L[i]?).map (·.cell.key)).getD ⟨#[]⟩
    cases L[i]? <;> rfl
theorem pair_val (L : List En) (i : Nat) (hi : i < L.length) : pairVal L (some i) = ⟨(L[i]).val.toArray⟩ := by
  show ((L[i]?).map fun e => (⟨e.val.toArray⟩ : ByteArray)).getD ⟨#[]⟩ = _
  rw [List.getElem?_eq_getElem hi]
  rfl
theorem fld0 (a b : ByteArray) (W : World) : Sem.run Try.prog (Instr.field 53 (.agg #[.string a, .string b]) 0) W = .ok (.string a) W := by
  have h := Try.underlying53
  simp [Instr.field, run_underlying h, part, asAgg, go_sem]
theorem fld1 (a b : ByteArray) (W : World) : Sem.run Try.prog (Instr.field 53 (.agg #[.string a, .string b]) 1) W = .ok (.string b) W := by
  have h := Try.underlying53
  simp [Instr.field, run_underlying h, part, asAgg, go_sem]
/-- What does leaves. -/
def DoesTells (h : Nat) (S : List Nat) (σ : Book) (cp root : Nat) (L : List En) (B B' r g c : Nat) (w : World) (e : Ending) (w' : World) : Prop :=
  e = .returned (.bool true) ∧ Below B w w' ∧ ∃ U o, CS h S σ cp root [g, r] L B w' U o ∧ RC w' B' r g c L o
set_option maxHeartbeats 32000000 in
theorem does_any {h : Nat} {S : List Nat} {σ : Book} {cp root : Nat} {L : List En} {B B' r g c : Nat} {w : World} {U : List Nat} {o : Option Nat} (hc : CS h S σ cp root [g, r] L B w U o) (hr : RC w B' r g c L o) (hwh : Whole σ root L) (hok : ∀ e ∈ L, Tr.EnOk σ e) (hL : L.length ≤ 100) (hkeys : ∀ e ∈ L, 1 ≤ e.cell.key.size ∧ e.cell.key.size ≤ 120) (hBr : B ≤ r) (kind : Int) (key : ByteArray) :
    Calls Try.prog 20 #[.pointer (some ⟨cp, 0, none⟩), .pointer (some ⟨r, 0, none⟩), .agg #[.int .i64 kind, .string key]] w (DoesTells h S σ cp root L B B' r g c w) := by
  have hf0 := fld0
  have hf1 := fld1
  obtain ⟨i1, i2, i3, i4⟩ := first_is L
  have hal : Below w.heap.size w (w.alloc (.cells #[.int .i64 kind, .string key] 49)) := (Below.refl _ w).alloc (Nat.le_refl _) _
  have HC := Lib.hid (hc.below hal)
  have HR := Lib.hid (hr.below hal)
  have HAL := Lib.hid (show Below B w (w.alloc (.cells #[.int .i64 kind, .string key] 49)) from hal.mono hc.old)
  have HB := Lib.hid (Bk.new w 49 #[.int .i64 kind, .string key])
  have HWH := Lib.hid hwh
  have HOK := Lib.hid hok
  have HKE := Lib.hid hkeys
  have HI := Lib.hid (show decide (L ≠ []) = (firstO L).isSome ∧ decide (L ≠ []) = (lastO L).isSome ∧ toO L.length 0 = firstO L ∧ toO L.length ((L.length : Int) - 1) = lastO L from ⟨i1, i2, i3, i4⟩)
  have lw : w.heap.size < (w.alloc (.cells #[.int .i64 kind, .string key] 49)).heap.size := by simp
  have hro : r < w.heap.size := hr.top.lt
  obtain ⟨vv, lls, hcu0, -⟩ := hc.is
  have HUW := Lib.hid (show ∀ b ∈ U, b < w.heap.size from hcu0.lt)
  clear hc hr hal hwh hok i1 i2 i3 i4 hkeys hcu0
  by_cases k1 : kind = 1
  · subst k1
    obtain ⟨on, hon⟩ : ∃ on, on = firstO L := ⟨_, rfl⟩
    obtain ⟨bn, hbn⟩ : ∃ bn, bn = on.isSome := ⟨_, rfl⟩
    have HBN := Lib.hid hbn
    have HX := Lib.hid (HC.out.first HWH.out)
    rw [HI.out.1, ← hon, ← hbn, show (if L = [] then none else some 0) = on from hon.symm] at HX
    have HON0 := Lib.hid hon
    clear hon hbn
    go_enter Try.func20, Try.ntmps20
    go_wp2_with fail
    refine HX.out.mono ?_
    rintro e w4 ⟨rfl, hn⟩
    obtain ⟨U4, hc4, hg4⟩ := hn.out
    have HC4 := Lib.hid hc4
    have HG4 := Lib.hid hg4
    have HB4 := Lib.hid (show Below B w w4 from HAL.out.trans hg4.1)
    have hr3 := HR.out.goes hg4 (by simp) (by simp)
    have s0 := hr3.top.cell 0
    have sl := hr3.top.lt
    have HY := Lib.hid (rto_ok hr3 0)
    rw [HI.out.2.2.1] at HY
    unfold RTo at HY
    rw [← HON0.out, ← HBN.out] at HY
    clear hn hc4 hg4 hr3
    go_wp2_with fail
    refine HY.out.mono ?_
    rintro e w5 ⟨rfl, hx⟩
    clear s0 sl
    have HC5 := Lib.hid (HC4.out.off hx.out.1 (by simp))
    have HR5 := Lib.hid hx.out.2
    have HB5 := Lib.hid (show Below B w w5 from HB4.out.trans (hx.out.1.below (Nat.le_trans HC.out.old HG4.out.1.size) (fun g' hg' => by rw [List.mem_singleton] at hg'; subst hg'; exact hBr)))
    clear hx
    cases on with
    | none =>
      obtain rfl : bn = false := HBN.out
      have HK := Lib.hid HC5.out.key
      rw [show (cellAt L none).key = ⟨#[]⟩ from rfl] at HK
      go_wp2_with fail
      refine HK.out.mono ?_
      rintro e w6 ⟨rfl, hb⟩
      have HC6 := Lib.hid (HC5.out.below hb.out)
      have HB6 := Lib.hid (HB5.out.trans (hb.out.mono HC5.out.old))
      have HR6 := Lib.hid (HR5.out.below hb.out)
      have HP := Lib.hid (rpair_ok HR6.out (by omega))
      rw [show pairKey L none = ⟨#[]⟩ from rfl, show pairVal L none = ⟨#[]⟩ from rfl] at HP
      clear hb
      go_wp2_with fail
      refine HP.out.mono ?_
      rintro e w7 ⟨rfl, hb⟩
      have HC7 := Lib.hid (HC6.out.below hb)
      have HB7 := Lib.hid (HB6.out.trans (hb.mono HC6.out.old))
      have HR7 := Lib.hid (HR6.out.below hb)
      have HV := Lib.hid HC7.out.value0
      clear hb
      go_wp2_with fail
      refine HV.out.mono ?_
      rintro e w8 ⟨rfl, hb⟩
      have HC8 := Lib.hid (HC7.out.below hb.out)
      have HB8 := Lib.hid (HB7.out.trans (hb.out.mono HC7.out.old))
      have HR8 := Lib.hid (HR7.out.below hb.out)
      clear hb
      go_wp2_with fail
      go_ret
      exact ⟨rfl, HB8.out, _, none, HC8.out, HR8.out⟩
    | some i =>
      obtain rfl : bn = true := HBN.out
      have hi := HR5.out.here i rfl
      have HK := Lib.hid HC5.out.key
      rw [pair_key] at HK
      have HPV := Lib.hid (pair_val L i hi)
      obtain ⟨k, hk⟩ : ∃ k, k = pairKey L (some i) := ⟨_, rfl⟩
      obtain ⟨v, hv⟩ : ∃ v, v = pairVal L (some i) := ⟨_, rfl⟩
      rw [← hk] at HK
      have e1 : (k.toList == k.toList) = true := by simp
      have e2 : (v.toList == v.toList) = true := by simp
      have e3 : (k.toList != k.toList) = false := by simp
      have HVV := Lib.hid hv
      have HKK := Lib.hid hk
      clear hk hv
      go_wp2_with fail
      refine HK.out.mono ?_
      rintro e w6 ⟨rfl, hb⟩
      have HC6 := Lib.hid (HC5.out.below hb.out)
      have HB6 := Lib.hid (HB5.out.trans (hb.out.mono HC5.out.old))
      have HR6 := Lib.hid (HR5.out.below hb.out)
      have HP := Lib.hid (rpair_ok HR6.out (by omega))
      rw [← HKK.out, ← HVV.out] at HP
      clear hb
      go_wp2_with fail
      refine HP.out.mono ?_
      rintro e w7 ⟨rfl, hb⟩
      have HC7 := Lib.hid (HC6.out.below hb)
      have HB7 := Lib.hid (HB6.out.trans (hb.mono HC6.out.old))
      have HR7 := Lib.hid (HR6.out.below hb)
      have HV := Lib.hid (HC7.out.value hi HOK.out)
      rw [← HPV.out, ← HVV.out] at HV
      clear hb
      go_wp2_with fail
      refine HV.out.mono ?_
      rintro e w8 ⟨rfl, hb⟩
      have HC8 := Lib.hid (HC7.out.below hb.out)
      have HB8 := Lib.hid (HB7.out.trans (hb.out.mono HC7.out.old))
      have HR8 := Lib.hid (HR7.out.below hb.out)
      have HP2 := Lib.hid (rpair_ok HR8.out (by omega))
      rw [← HKK.out, ← HVV.out] at HP2
      clear hb
      go_wp2_with fail
      refine HP2.out.mono ?_
      rintro e w9 ⟨rfl, hb⟩
      have HC9 := Lib.hid (HC8.out.below hb)
      have HB9 := Lib.hid (HB8.out.trans (hb.mono HC8.out.old))
      have HR9 := Lib.hid (HR8.out.below hb)
      clear hb
      go_wp2_with fail
      go_ret
      exact ⟨rfl, HB9.out, _, some i, HC9.out, HR9.out⟩
  have z1 : (kind == 1) = false := by rw [beq_eq_false_iff_ne]; exact k1
  by_cases k2 : kind = 2
  · subst k2
    obtain ⟨on, hon⟩ : ∃ on, on = lastO L := ⟨_, rfl⟩
    obtain ⟨bn, hbn⟩ : ∃ bn, bn = on.isSome := ⟨_, rfl⟩
    have HBN := Lib.hid hbn
    have HX := Lib.hid (HC.out.last HWH.out)
    rw [HI.out.2.1, ← hon, ← hbn, show (if L = [] then none else some (L.length - 1)) = on from hon.symm] at HX
    have HON0 := Lib.hid hon
    clear hon hbn
    go_enter Try.func20, Try.ntmps20
    go_wp2_with fail
    refine HX.out.mono ?_
    rintro e w4 ⟨rfl, hn⟩
    obtain ⟨U4, hc4, hg4⟩ := hn.out
    have HC4 := Lib.hid hc4
    have HG4 := Lib.hid hg4
    have HB4 := Lib.hid (show Below B w w4 from HAL.out.trans hg4.1)
    have hr3 := HR.out.goes hg4 (by simp) (by simp)
    have s0 := hr3.top.cell 0
    have sl := hr3.top.lt
    have HY := Lib.hid (rto_ok hr3 ((L.length : Int) - 1))
    rw [HI.out.2.2.2] at HY
    unfold RTo at HY
    rw [← HON0.out, ← HBN.out] at HY
    clear hn hc4 hg4 hr3
    go_wp2_with fail
    refine HY.out.mono ?_
    rintro e w5 ⟨rfl, hx⟩
    clear s0 sl
    have HC5 := Lib.hid (HC4.out.off hx.out.1 (by simp))
    have HR5 := Lib.hid hx.out.2
    have HB5 := Lib.hid (show Below B w w5 from HB4.out.trans (hx.out.1.below (Nat.le_trans HC.out.old HG4.out.1.size) (fun g' hg' => by rw [List.mem_singleton] at hg'; subst hg'; exact hBr)))
    clear hx
    cases on with
    | none =>
      obtain rfl : bn = false := HBN.out
      have HK := Lib.hid HC5.out.key
      rw [show (cellAt L none).key = ⟨#[]⟩ from rfl] at HK
      go_wp2_with fail
      refine HK.out.mono ?_
      rintro e w6 ⟨rfl, hb⟩
      have HC6 := Lib.hid (HC5.out.below hb.out)
      have HB6 := Lib.hid (HB5.out.trans (hb.out.mono HC5.out.old))
      have HR6 := Lib.hid (HR5.out.below hb.out)
      have HP := Lib.hid (rpair_ok HR6.out (by omega))
      rw [show pairKey L none = ⟨#[]⟩ from rfl, show pairVal L none = ⟨#[]⟩ from rfl] at HP
      clear hb
      go_wp2_with fail
      refine HP.out.mono ?_
      rintro e w7 ⟨rfl, hb⟩
      have HC7 := Lib.hid (HC6.out.below hb)
      have HB7 := Lib.hid (HB6.out.trans (hb.mono HC6.out.old))
      have HR7 := Lib.hid (HR6.out.below hb)
      have HV := Lib.hid HC7.out.value0
      clear hb
      go_wp2_with fail
      refine HV.out.mono ?_
      rintro e w8 ⟨rfl, hb⟩
      have HC8 := Lib.hid (HC7.out.below hb.out)
      have HB8 := Lib.hid (HB7.out.trans (hb.out.mono HC7.out.old))
      have HR8 := Lib.hid (HR7.out.below hb.out)
      clear hb
      go_wp2_with fail
      go_ret
      exact ⟨rfl, HB8.out, _, none, HC8.out, HR8.out⟩
    | some i =>
      obtain rfl : bn = true := HBN.out
      have hi := HR5.out.here i rfl
      have HK := Lib.hid HC5.out.key
      rw [pair_key] at HK
      have HPV := Lib.hid (pair_val L i hi)
      obtain ⟨k, hk⟩ : ∃ k, k = pairKey L (some i) := ⟨_, rfl⟩
      obtain ⟨v, hv⟩ : ∃ v, v = pairVal L (some i) := ⟨_, rfl⟩
      rw [← hk] at HK
      have e1 : (k.toList == k.toList) = true := by simp
      have e2 : (v.toList == v.toList) = true := by simp
      have e3 : (k.toList != k.toList) = false := by simp
      have HVV := Lib.hid hv
      have HKK := Lib.hid hk
      clear hk hv
      go_wp2_with fail
      refine HK.out.mono ?_
      rintro e w6 ⟨rfl, hb⟩
      have HC6 := Lib.hid (HC5.out.below hb.out)
      have HB6 := Lib.hid (HB5.out.trans (hb.out.mono HC5.out.old))
      have HR6 := Lib.hid (HR5.out.below hb.out)
      have HP := Lib.hid (rpair_ok HR6.out (by omega))
      rw [← HKK.out, ← HVV.out] at HP
      clear hb
      go_wp2_with fail
      refine HP.out.mono ?_
      rintro e w7 ⟨rfl, hb⟩
      have HC7 := Lib.hid (HC6.out.below hb)
      have HB7 := Lib.hid (HB6.out.trans (hb.mono HC6.out.old))
      have HR7 := Lib.hid (HR6.out.below hb)
      have HV := Lib.hid (HC7.out.value hi HOK.out)
      rw [← HPV.out, ← HVV.out] at HV
      clear hb
      go_wp2_with fail
      refine HV.out.mono ?_
      rintro e w8 ⟨rfl, hb⟩
      have HC8 := Lib.hid (HC7.out.below hb.out)
      have HB8 := Lib.hid (HB7.out.trans (hb.out.mono HC7.out.old))
      have HR8 := Lib.hid (HR7.out.below hb.out)
      have HP2 := Lib.hid (rpair_ok HR8.out (by omega))
      rw [← HKK.out, ← HVV.out] at HP2
      clear hb
      go_wp2_with fail
      refine HP2.out.mono ?_
      rintro e w9 ⟨rfl, hb⟩
      have HC9 := Lib.hid (HC8.out.below hb)
      have HB9 := Lib.hid (HB8.out.trans (hb.mono HC8.out.old))
      have HR9 := Lib.hid (HR8.out.below hb)
      clear hb
      go_wp2_with fail
      go_ret
      exact ⟨rfl, HB9.out, _, some i, HC9.out, HR9.out⟩
  have z2 : (kind == 2) = false := by rw [beq_eq_false_iff_ne]; exact k2
  by_cases k3 : kind = 3
  · subst k3
    have HX := Lib.hid (HC.out.seek2 HWH.out key)
    obtain ⟨on, hon⟩ : ∃ on, on = seekO L key := ⟨_, rfl⟩
    obtain ⟨bn, hbn⟩ : ∃ bn, bn = on.isSome := ⟨_, rfl⟩
    have HBN := Lib.hid hbn
    rw [← hon, ← hbn] at HX
    have HON0 := Lib.hid hon
    clear hon hbn
    go_enter Try.func20, Try.ntmps20
    go_wp2_with fail
    refine HX.out.mono ?_
    rintro e w4 ⟨rfl, hn⟩
    obtain ⟨⟨U4, hc4, hg4⟩, hoff4⟩ := hn.out
    have hb4 : Bk w4 w.heap.size 49 #[.int .i64 3, .string key] := hoff4.bk HB.out (fun hm => by have := HUW.out _ hm; omega)
    have b1 := hb4.cell 1
    have bl := hb4.lt
    have HC4 := Lib.hid hc4
    have HG4 := Lib.hid hg4
    have HB4 := Lib.hid (show Below B w w4 from HAL.out.trans hg4.1)
    have hr3 := HR.out.goes hg4 (by simp) (by simp)
    have s0 := hr3.top.cell 0
    have sl := hr3.top.lt
    have HY := Lib.hid (rseek_ok hr3 (by omega) (fun e he => by have := (HKE.out e he).2; omega) key)

    unfold RTo at HY
    rw [← HON0.out, ← HBN.out] at HY
    clear hn hc4 hg4 hr3
    go_wp2_with fail
    refine HY.out.mono ?_
    rintro e w5 ⟨rfl, hx⟩
    clear s0 sl b1 bl hb4 hoff4
    have HC5 := Lib.hid (HC4.out.off hx.out.1 (by simp))
    have HR5 := Lib.hid hx.out.2
    have HB5 := Lib.hid (show Below B w w5 from HB4.out.trans (hx.out.1.below (Nat.le_trans HC.out.old HG4.out.1.size) (fun g' hg' => by rw [List.mem_singleton] at hg'; subst hg'; exact hBr)))
    clear hx
    cases on with
    | none =>
      obtain rfl : bn = false := HBN.out
      have HK := Lib.hid HC5.out.key
      rw [show (cellAt L none).key = ⟨#[]⟩ from rfl] at HK
      go_wp2_with fail
      refine HK.out.mono ?_
      rintro e w6 ⟨rfl, hb⟩
      have HC6 := Lib.hid (HC5.out.below hb.out)
      have HB6 := Lib.hid (HB5.out.trans (hb.out.mono HC5.out.old))
      have HR6 := Lib.hid (HR5.out.below hb.out)
      have HP := Lib.hid (rpair_ok HR6.out (by omega))
      rw [show pairKey L none = ⟨#[]⟩ from rfl, show pairVal L none = ⟨#[]⟩ from rfl] at HP
      clear hb
      go_wp2_with fail
      refine HP.out.mono ?_
      rintro e w7 ⟨rfl, hb⟩
      have HC7 := Lib.hid (HC6.out.below hb)
      have HB7 := Lib.hid (HB6.out.trans (hb.mono HC6.out.old))
      have HR7 := Lib.hid (HR6.out.below hb)
      have HV := Lib.hid HC7.out.value0
      clear hb
      go_wp2_with fail
      refine HV.out.mono ?_
      rintro e w8 ⟨rfl, hb⟩
      have HC8 := Lib.hid (HC7.out.below hb.out)
      have HB8 := Lib.hid (HB7.out.trans (hb.out.mono HC7.out.old))
      have HR8 := Lib.hid (HR7.out.below hb.out)
      clear hb
      go_wp2_with fail
      go_ret
      exact ⟨rfl, HB8.out, _, none, HC8.out, HR8.out⟩
    | some i =>
      obtain rfl : bn = true := HBN.out
      have hi := HR5.out.here i rfl
      have HK := Lib.hid HC5.out.key
      rw [pair_key] at HK
      have HPV := Lib.hid (pair_val L i hi)
      obtain ⟨k, hk⟩ : ∃ k, k = pairKey L (some i) := ⟨_, rfl⟩
      obtain ⟨v, hv⟩ : ∃ v, v = pairVal L (some i) := ⟨_, rfl⟩
      rw [← hk] at HK
      have e1 : (k.toList == k.toList) = true := by simp
      have e2 : (v.toList == v.toList) = true := by simp
      have e3 : (k.toList != k.toList) = false := by simp
      have HVV := Lib.hid hv
      have HKK := Lib.hid hk
      clear hk hv
      go_wp2_with fail
      refine HK.out.mono ?_
      rintro e w6 ⟨rfl, hb⟩
      have HC6 := Lib.hid (HC5.out.below hb.out)
      have HB6 := Lib.hid (HB5.out.trans (hb.out.mono HC5.out.old))
      have HR6 := Lib.hid (HR5.out.below hb.out)
      have HP := Lib.hid (rpair_ok HR6.out (by omega))
      rw [← HKK.out, ← HVV.out] at HP
      clear hb
      go_wp2_with fail
      refine HP.out.mono ?_
      rintro e w7 ⟨rfl, hb⟩
      have HC7 := Lib.hid (HC6.out.below hb)
      have HB7 := Lib.hid (HB6.out.trans (hb.mono HC6.out.old))
      have HR7 := Lib.hid (HR6.out.below hb)
      have HV := Lib.hid (HC7.out.value hi HOK.out)
      rw [← HPV.out, ← HVV.out] at HV
      clear hb
      go_wp2_with fail
      refine HV.out.mono ?_
      rintro e w8 ⟨rfl, hb⟩
      have HC8 := Lib.hid (HC7.out.below hb.out)
      have HB8 := Lib.hid (HB7.out.trans (hb.out.mono HC7.out.old))
      have HR8 := Lib.hid (HR7.out.below hb.out)
      have HP2 := Lib.hid (rpair_ok HR8.out (by omega))
      rw [← HKK.out, ← HVV.out] at HP2
      clear hb
      go_wp2_with fail
      refine HP2.out.mono ?_
      rintro e w9 ⟨rfl, hb⟩
      have HC9 := Lib.hid (HC8.out.below hb)
      have HB9 := Lib.hid (HB8.out.trans (hb.mono HC8.out.old))
      have HR9 := Lib.hid (HR8.out.below hb)
      clear hb
      go_wp2_with fail
      go_ret
      exact ⟨rfl, HB9.out, _, some i, HC9.out, HR9.out⟩
  have z3 : (kind == 3) = false := by rw [beq_eq_false_iff_ne]; exact k3
  by_cases k4 : kind = 4
  · subst k4
    have HX := Lib.hid (HC.out.next)
    obtain ⟨on, hon⟩ : ∃ on, on = nextO L o := ⟨_, rfl⟩
    obtain ⟨bn, hbn⟩ : ∃ bn, bn = on.isSome := ⟨_, rfl⟩
    have HBN := Lib.hid hbn
    rw [← hon, ← hbn] at HX
    have HON0 := Lib.hid hon
    clear hon hbn
    go_enter Try.func20, Try.ntmps20
    go_wp2_with fail
    refine HX.out.mono ?_
    rintro e w4 ⟨rfl, hn⟩
    obtain ⟨U4, hc4, hg4⟩ := hn.out
    have HC4 := Lib.hid hc4
    have HG4 := Lib.hid hg4
    have HB4 := Lib.hid (show Below B w w4 from HAL.out.trans hg4.1)
    have hr3 := HR.out.goes hg4 (by simp) (by simp)
    have s0 := hr3.top.cell 0
    have sl := hr3.top.lt
    have HY := Lib.hid (rnext_ok hr3 (by omega))

    unfold RTo at HY
    rw [← HON0.out, ← HBN.out] at HY
    clear hn hc4 hg4 hr3
    go_wp2_with fail
    refine HY.out.mono ?_
    rintro e w5 ⟨rfl, hx⟩
    clear s0 sl
    have HC5 := Lib.hid (HC4.out.off hx.out.1 (by simp))
    have HR5 := Lib.hid hx.out.2
    have HB5 := Lib.hid (show Below B w w5 from HB4.out.trans (hx.out.1.below (Nat.le_trans HC.out.old HG4.out.1.size) (fun g' hg' => by rw [List.mem_singleton] at hg'; subst hg'; exact hBr)))
    clear hx
    cases on with
    | none =>
      obtain rfl : bn = false := HBN.out
      have HK := Lib.hid HC5.out.key
      rw [show (cellAt L none).key = ⟨#[]⟩ from rfl] at HK
      go_wp2_with fail
      refine HK.out.mono ?_
      rintro e w6 ⟨rfl, hb⟩
      have HC6 := Lib.hid (HC5.out.below hb.out)
      have HB6 := Lib.hid (HB5.out.trans (hb.out.mono HC5.out.old))
      have HR6 := Lib.hid (HR5.out.below hb.out)
      have HP := Lib.hid (rpair_ok HR6.out (by omega))
      rw [show pairKey L none = ⟨#[]⟩ from rfl, show pairVal L none = ⟨#[]⟩ from rfl] at HP
      clear hb
      go_wp2_with fail
      refine HP.out.mono ?_
      rintro e w7 ⟨rfl, hb⟩
      have HC7 := Lib.hid (HC6.out.below hb)
      have HB7 := Lib.hid (HB6.out.trans (hb.mono HC6.out.old))
      have HR7 := Lib.hid (HR6.out.below hb)
      have HV := Lib.hid HC7.out.value0
      clear hb
      go_wp2_with fail
      refine HV.out.mono ?_
      rintro e w8 ⟨rfl, hb⟩
      have HC8 := Lib.hid (HC7.out.below hb.out)
      have HB8 := Lib.hid (HB7.out.trans (hb.out.mono HC7.out.old))
      have HR8 := Lib.hid (HR7.out.below hb.out)
      clear hb
      go_wp2_with fail
      go_ret
      exact ⟨rfl, HB8.out, _, none, HC8.out, HR8.out⟩
    | some i =>
      obtain rfl : bn = true := HBN.out
      have hi := HR5.out.here i rfl
      have HK := Lib.hid HC5.out.key
      rw [pair_key] at HK
      have HPV := Lib.hid (pair_val L i hi)
      obtain ⟨k, hk⟩ : ∃ k, k = pairKey L (some i) := ⟨_, rfl⟩
      obtain ⟨v, hv⟩ : ∃ v, v = pairVal L (some i) := ⟨_, rfl⟩
      rw [← hk] at HK
      have e1 : (k.toList == k.toList) = true := by simp
      have e2 : (v.toList == v.toList) = true := by simp
      have e3 : (k.toList != k.toList) = false := by simp
      have HVV := Lib.hid hv
      have HKK := Lib.hid hk
      clear hk hv
      go_wp2_with fail
      refine HK.out.mono ?_
      rintro e w6 ⟨rfl, hb⟩
      have HC6 := Lib.hid (HC5.out.below hb.out)
      have HB6 := Lib.hid (HB5.out.trans (hb.out.mono HC5.out.old))
      have HR6 := Lib.hid (HR5.out.below hb.out)
      have HP := Lib.hid (rpair_ok HR6.out (by omega))
      rw [← HKK.out, ← HVV.out] at HP
      clear hb
      go_wp2_with fail
      refine HP.out.mono ?_
      rintro e w7 ⟨rfl, hb⟩
      have HC7 := Lib.hid (HC6.out.below hb)
      have HB7 := Lib.hid (HB6.out.trans (hb.mono HC6.out.old))
      have HR7 := Lib.hid (HR6.out.below hb)
      have HV := Lib.hid (HC7.out.value hi HOK.out)
      rw [← HPV.out, ← HVV.out] at HV
      clear hb
      go_wp2_with fail
      refine HV.out.mono ?_
      rintro e w8 ⟨rfl, hb⟩
      have HC8 := Lib.hid (HC7.out.below hb.out)
      have HB8 := Lib.hid (HB7.out.trans (hb.out.mono HC7.out.old))
      have HR8 := Lib.hid (HR7.out.below hb.out)
      have HP2 := Lib.hid (rpair_ok HR8.out (by omega))
      rw [← HKK.out, ← HVV.out] at HP2
      clear hb
      go_wp2_with fail
      refine HP2.out.mono ?_
      rintro e w9 ⟨rfl, hb⟩
      have HC9 := Lib.hid (HC8.out.below hb)
      have HB9 := Lib.hid (HB8.out.trans (hb.mono HC8.out.old))
      have HR9 := Lib.hid (HR8.out.below hb)
      clear hb
      go_wp2_with fail
      go_ret
      exact ⟨rfl, HB9.out, _, some i, HC9.out, HR9.out⟩
  have z4 : (kind == 4) = false := by rw [beq_eq_false_iff_ne]; exact k4
  have HX := Lib.hid (HC.out.prev)
  obtain ⟨on, hon⟩ : ∃ on, on = prevO o := ⟨_, rfl⟩
  obtain ⟨bn, hbn⟩ : ∃ bn, bn = on.isSome := ⟨_, rfl⟩
  have HBN := Lib.hid hbn
  rw [← hon, ← hbn] at HX
  have HON0 := Lib.hid hon
  clear hon hbn
  go_enter Try.func20, Try.ntmps20
  go_wp2_with fail
  refine HX.out.mono ?_
  rintro e w4 ⟨rfl, hn⟩
  obtain ⟨U4, hc4, hg4⟩ := hn.out
  have HC4 := Lib.hid hc4
  have HG4 := Lib.hid hg4
  have HB4 := Lib.hid (show Below B w w4 from HAL.out.trans hg4.1)
  have hr3 := HR.out.goes hg4 (by simp) (by simp)
  have s0 := hr3.top.cell 0
  have sl := hr3.top.lt
  have HY := Lib.hid (rprev_ok hr3 (by omega))

  unfold RTo at HY
  rw [← HON0.out, ← HBN.out] at HY
  clear hn hc4 hg4 hr3
  go_wp2_with fail
  refine HY.out.mono ?_
  rintro e w5 ⟨rfl, hx⟩
  clear s0 sl
  have HC5 := Lib.hid (HC4.out.off hx.out.1 (by simp))
  have HR5 := Lib.hid hx.out.2
  have HB5 := Lib.hid (show Below B w w5 from HB4.out.trans (hx.out.1.below (Nat.le_trans HC.out.old HG4.out.1.size) (fun g' hg' => by rw [List.mem_singleton] at hg'; subst hg'; exact hBr)))
  clear hx
  cases on with
  | none =>
    obtain rfl : bn = false := HBN.out
    have HK := Lib.hid HC5.out.key
    rw [show (cellAt L none).key = ⟨#[]⟩ from rfl] at HK
    go_wp2_with fail
    refine HK.out.mono ?_
    rintro e w6 ⟨rfl, hb⟩
    have HC6 := Lib.hid (HC5.out.below hb.out)
    have HB6 := Lib.hid (HB5.out.trans (hb.out.mono HC5.out.old))
    have HR6 := Lib.hid (HR5.out.below hb.out)
    have HP := Lib.hid (rpair_ok HR6.out (by omega))
    rw [show pairKey L none = ⟨#[]⟩ from rfl, show pairVal L none = ⟨#[]⟩ from rfl] at HP
    clear hb
    go_wp2_with fail
    refine HP.out.mono ?_
    rintro e w7 ⟨rfl, hb⟩
    have HC7 := Lib.hid (HC6.out.below hb)
    have HB7 := Lib.hid (HB6.out.trans (hb.mono HC6.out.old))
    have HR7 := Lib.hid (HR6.out.below hb)
    have HV := Lib.hid HC7.out.value0
    clear hb
    go_wp2_with fail
    refine HV.out.mono ?_
    rintro e w8 ⟨rfl, hb⟩
    have HC8 := Lib.hid (HC7.out.below hb.out)
    have HB8 := Lib.hid (HB7.out.trans (hb.out.mono HC7.out.old))
    have HR8 := Lib.hid (HR7.out.below hb.out)
    clear hb
    go_wp2_with fail
    go_ret
    exact ⟨rfl, HB8.out, _, none, HC8.out, HR8.out⟩
  | some i =>
    obtain rfl : bn = true := HBN.out
    have hi := HR5.out.here i rfl
    have HK := Lib.hid HC5.out.key
    rw [pair_key] at HK
    have HPV := Lib.hid (pair_val L i hi)
    obtain ⟨k, hk⟩ : ∃ k, k = pairKey L (some i) := ⟨_, rfl⟩
    obtain ⟨v, hv⟩ : ∃ v, v = pairVal L (some i) := ⟨_, rfl⟩
    rw [← hk] at HK
    have e1 : (k.toList == k.toList) = true := by simp
    have e2 : (v.toList == v.toList) = true := by simp
    have e3 : (k.toList != k.toList) = false := by simp
    have HVV := Lib.hid hv
    have HKK := Lib.hid hk
    clear hk hv
    go_wp2_with fail
    refine HK.out.mono ?_
    rintro e w6 ⟨rfl, hb⟩
    have HC6 := Lib.hid (HC5.out.below hb.out)
    have HB6 := Lib.hid (HB5.out.trans (hb.out.mono HC5.out.old))
    have HR6 := Lib.hid (HR5.out.below hb.out)
    have HP := Lib.hid (rpair_ok HR6.out (by omega))
    rw [← HKK.out, ← HVV.out] at HP
    clear hb
    go_wp2_with fail
    refine HP.out.mono ?_
    rintro e w7 ⟨rfl, hb⟩
    have HC7 := Lib.hid (HC6.out.below hb)
    have HB7 := Lib.hid (HB6.out.trans (hb.mono HC6.out.old))
    have HR7 := Lib.hid (HR6.out.below hb)
    have HV := Lib.hid (HC7.out.value hi HOK.out)
    rw [← HPV.out, ← HVV.out] at HV
    clear hb
    go_wp2_with fail
    refine HV.out.mono ?_
    rintro e w8 ⟨rfl, hb⟩
    have HC8 := Lib.hid (HC7.out.below hb.out)
    have HB8 := Lib.hid (HB7.out.trans (hb.out.mono HC7.out.old))
    have HR8 := Lib.hid (HR7.out.below hb.out)
    have HP2 := Lib.hid (rpair_ok HR8.out (by omega))
    rw [← HKK.out, ← HVV.out] at HP2
    clear hb
    go_wp2_with fail
    refine HP2.out.mono ?_
    rintro e w9 ⟨rfl, hb⟩
    have HC9 := Lib.hid (HC8.out.below hb)
    have HB9 := Lib.hid (HB8.out.trans (hb.mono HC8.out.old))
    have HR9 := Lib.hid (HR8.out.below hb)
    clear hb
    go_wp2_with fail
    go_ret
    exact ⟨rfl, HB9.out, _, some i, HC9.out, HR9.out⟩
end Go.Proofs.Ytllafbcnikoohaa
/- CursorPlays' walk. -/
namespace Go.Proofs.Ytllafbcnikoohaa
open Go.RowKit
set_option maxRecDepth 100000
set_option linter.unusedVariables false
set_option linter.unusedSimpArgs false
/-- A slice of acts as an argument. -/
def CActsAt (W : World) (A : Option Addr) (n : Nat) (K : Nat → Int) (V : Nat → ByteArray) : Prop := ∀ i, i < n → ∃ b o, A = some ⟨b, o, none⟩ ∧ b < W.heap.size ∧ W.cell? ⟨b, o + i * 2, none⟩ = some (.int .i64 (K i)) ∧ W.cell? ⟨b, o + i * 2 + 1, none⟩ = some (.string (V i))
theorem CS.wide {h : Nat} {S : List Nat} {σ : Book} {c root : Nat} {R R' : List Nat} {L : List En} {B : Nat} {w : World} {U : List Nat} (hc : CS h S σ c root R L B w U none) (hr : ∀ b ∈ R', b < w.heap.size ∧ b ∉ S ∧ b ∉ U) : CS h S σ c root R' L B w U none := by
  obtain ⟨⟨v, ls, h1, h2⟩, h3, h4⟩ := hc
  have hls : ls = [] := List.map_eq_nil_iff.1 h2
  subst hls
  exact ⟨⟨v, [], h1.wide hr, rfl⟩, h3, h4⟩
set_option maxHeartbeats 16000000 in
theorem cursorPlays_walk (A : Option Addr) (n cap : Nat) (K V : Nat → ByteArray) (A2 : Option Addr) (n2 cap2 : Nat) (K2 : Nat → Int) (V2 : Nat → ByteArray) (w : World) (hn : n ≤ maxLen) (ha : PairsAt w A n K V) (hn2 : n2 ≤ maxLen) (ha2 : CActsAt w A2 n2 K2 V2) :
    Calls Try.prog 6 #[.slice A n cap, .slice A2 n2 cap2] w (Holds w) := by
  have HA := Lib.hid (awake10 w)
  have HP := Lib.hid ha
  have HP2 := Lib.hid ha2
  clear ha ha2
  go_enter Try.func6, Try.ntmps6
  go_wp2_with fail
  refine HA.out.mono ?_
  rintro e w1 ⟨rfl, hb⟩
  have HB1 := Lib.hid hb
  have HG := Lib.hid (grown_any A n cap K V w1 (fun i hi => by
    obtain ⟨b, o, e, hl, q0, q1⟩ := HP.out i hi
    exact ⟨b, o, e, Nat.lt_of_lt_of_le hl hb.size, (World.cell?_of_block (a := ⟨b, o + i * 2, none⟩) (hb.block b hl)).trans q0, (World.cell?_of_block (a := ⟨b, o + i * 2 + 1, none⟩) (hb.block b hl)).trans q1⟩) hn)
  clear hb
  go_wp2_with fail
  refine HG.out.mono ?_
  rintro e w2 ⟨h, S, σ, root, P, L, g, c, rfl, hgr, hL, hb2, hfd⟩
  have HB2 := Lib.hid (HB1.out.trans (hb2.mono HB1.out.size))
  have HWH := Lib.hid (hgr.root.whole hgr.nodup)
  have HOK := Lib.hid hgr.root.ents
  have HKE := Lib.hid hgr.keys
  have hgl := (World.ownsRow.lt hgr.row g rfl).2
  have hgb := (World.ownsRow.lt hgr.row g rfl).1
  have HROW := Lib.hid hgr.row
  have HGS := Lib.hid hgr.apart
  have HSO := Lib.hid fun (b : Nat) (hb : b ∈ S) => (heap_serves h).old hgr.heap b hb
  have HN := Lib.hid (CS.new (B := w.heap.size) ((heap_serves h).less hgr.heap (Nat.zero_le _)) root L [g] (fun b hb => by rw [List.mem_singleton] at hb; subst hb; exact ⟨hgl, hgr.apart⟩) HB2.out.size)
  clear hgr hb2 hfd
  go_wp2_with fail
  refine HN.out.mono ?_
  rintro e w3 ⟨cp, rfl, hn⟩
  obtain ⟨U3, hc, hg, hu3, hcp⟩ := hn.out
  have hal : Below w3.heap.size w3 (w3.alloc (.cells #[.slice (some ⟨g, 0, none⟩) L.length c, .int .i64 (-1)] 47)) := (Below.refl _ w3).alloc (Nat.le_refl _) _
  have hrow3 := (HROW.out.goes (by simp) hg).below hal
  have hg3 : g < w3.heap.size := Nat.lt_of_lt_of_le hgl hg.1.size
  have hcw := (hc.below hal).wide (R' := [g, w3.heap.size]) (fun b hb => by
    simp only [List.mem_cons, List.not_mem_nil, or_false] at hb
    subst hu3
    rcases hb with rfl | rfl
    · exact ⟨by simp; omega, HGS.out, by rw [List.mem_singleton]; omega⟩
    · refine ⟨by simp, fun hm => by have := HSO.out _ hm; have := hg.1.size; omega, ?_⟩
      obtain ⟨v, ls, hcu, -⟩ := hc.is
      intro hm
      have := hcu.lt _ hm
      omega)
  have hrc : RC (w3.alloc (.cells #[.slice (some ⟨g, 0, none⟩) L.length c, .int .i64 (-1)] 47)) w1.heap.size w3.heap.size g c L none := ⟨Bk.new w3 _ _, hrow3, by omega, by simp⟩
  have HB4 := Lib.hid (show Below w.heap.size w (w3.alloc (.cells #[.slice (some ⟨g, 0, none⟩) L.length c, .int .i64 (-1)] 47)) from (HB2.out.trans hg.1).alloc (Nat.le_trans HB2.out.size hg.1.size) _)
  have HC4 := Lib.hid hcw
  have HR4 := Lib.hid hrc
  have hBr : w.heap.size ≤ w3.heap.size := Nat.le_trans HB2.out.size hg.1.size
  clear hn hc hg hal hrow3 hcw hrc hu3 hcp
  go_wp2_with fail
  go_loopw [11] (fun i wr => Below w.heap.size w wr ∧ ∃ (j : Nat) (U : List Nat) (o : Option Nat), i = .int .i64 j ∧ j ≤ 80 ∧ CS h S σ cp root [g, w3.heap.size] L w.heap.size wr U o ∧ RC wr w1.heap.size w3.heap.size g c L o) (fun i _ => 80 - (intOf i).toNat)
  case atStart => exact ⟨HB4.out, 0, U3, none, rfl, by omega, HC4.out, HR4.out⟩
  case round =>
    obtain ⟨hb, j, U, o, rfl, hj, hc, hr⟩ := hrel
    have HB := Lib.hid hb
    have HC := Lib.hid hc
    have HR := Lib.hid hr
    by_cases hjn : j < n2
    case neg =>
      have z1 : decide ((j : Int) < (n2 : Int)) = false := decide_eq_false (by omega)
      clear hb hc hr
      go_wp2_with fail
      go_ret
      exact ⟨rfl, HB.out⟩
    have z1 : decide ((j : Int) < (n2 : Int)) = true := decide_eq_true (by omega)
    by_cases hj1 : j < 80
    case neg =>
      have z3 : decide ((j : Int) < 80) = false := decide_eq_false (by omega)
      have z4 : decide (j < 80) = false := decide_eq_false hj1
      clear hb hc hr
      go_wp2_with fail
      go_ret
      exact ⟨rfl, HB.out⟩
    have z3 : decide ((j : Int) < 80) = true := decide_eq_true (by omega)
    have z4 : decide (j < 80) = true := decide_eq_true hj1
    obtain ⟨b, o', rfl, hbl, q0, q1⟩ := HP2.out j hjn
    have p0 : wr.cell? ⟨b, o' + j * 2, none⟩ = some (.int .i64 (K2 j)) := (World.cell?_of_block (a := ⟨b, o' + j * 2, none⟩) (hb.block b hbl)).trans q0
    have p1 : wr.cell? ⟨b, o' + j * 2 + 1, none⟩ = some (.string (V2 j)) := (World.cell?_of_block (a := ⟨b, o' + j * 2 + 1, none⟩) (hb.block b hbl)).trans q1
    have hbw : b < wr.heap.size := Nat.lt_of_lt_of_le hbl hb.size
    have y1 : (0 : Int) ≤ (j : Int) := by omega
    have y2 : (j : Int) < (n2 : Int) := by omega
    obtain ⟨ky, hky⟩ : ∃ ky, ky = V2 j := ⟨_, rfl⟩
    obtain ⟨kd, hkd⟩ : ∃ kd, kd = K2 j := ⟨_, rfl⟩
    rw [← hky] at p1
    rw [← hkd] at p0
    clear q0 q1 hb hc hr hky hkd
    by_cases hk : 1000 < ky.size
    · have x1 : decide ((1000 : Int) < (ky.size : Int)) = true := decide_eq_true (by omega)
      have x2 : decide (1000 < ky.size) = true := decide_eq_true hk
      go_wp2_with fail
      go_roundw
      case rel => exact ⟨HB.out, j + 1, U, o, by go_num, by omega, HC.out, HR.out⟩
      case measure => simp [intOf]; omega
    have x1 : decide ((1000 : Int) < (ky.size : Int)) = false := decide_eq_false (by omega)
    have x2 : decide (1000 < ky.size) = false := decide_eq_false hk
    have HD := Lib.hid (does_any HC.out HR.out HWH.out HOK.out hL HKE.out hBr kd ky)
    go_wp2_with fail
    refine HD.out.mono ?_
    rintro e w5 ⟨rfl, hb5, U5, o5, hc5, hr5⟩
    have HN5 := Lib.hid (show Below w.heap.size w w5 ∧ CS h S σ cp root [g, w3.heap.size] L w.heap.size w5 U5 o5 ∧ RC w5 w1.heap.size w3.heap.size g c L o5 from ⟨HB.out.trans hb5, hc5, hr5⟩)
    clear hb5 hc5 hr5
    go_wp2_with fail
    go_roundw
    case rel => exact ⟨HN5.out.1, j + 1, U5, o5, by go_num, by omega, HN5.out.2.1, HN5.out.2.2⟩
    case measure => simp [intOf]; omega
end Go.Proofs.Ytllafbcnikoohaa
