/- Merged by program: RLess Pairs. -/
import Derived.Test.YtllafbcnikoohaaC1
import Derived.BigQuiet
import Derived.Test.YtllafbcnikoohaaC16
/- The reference: Less. -/
namespace Go.Proofs.Ytllafbcnikoohaa
open Go.RowKit
set_option maxRecDepth 100000
set_option linter.unusedVariables false
set_option linter.unusedSimpArgs false
def rless (a b : ByteArray) : Int := if Nd.lt a b = true then -1 else if Nd.lt b a = true then 1 else 0
set_option maxHeartbeats 8000000 in
theorem rless_any (a b : ByteArray) (w : World) (ha9 : a.size ≤ 1000000) : Calls Try.prog 13 #[.string a, .string b] w (fun e w' => e = .returned (.int .i64 (rless a b)) ∧ Below w.heap.size w w') := by
  have hla : a.toList.length = a.size := by rw [ByteArray.toList_eq]; rfl
  have hlb : b.toList.length = b.size := by rw [ByteArray.toList_eq]; rfl
  go_enter Try.func13, Try.ntmps13
  go_wp2_with fail
  go_loopw [5] (fun i wr => Below w.heap.size w wr ∧ ∃ j : Nat, i = .int .i64 j ∧ j ≤ a.size ∧ j ≤ b.size ∧ Nd.lt a b = Op.bytesLess (a.toList.drop j) (b.toList.drop j) ∧ Nd.lt b a = Op.bytesLess (b.toList.drop j) (a.toList.drop j)) (fun i _ => a.size - (intOf i).toNat)
  case atStart => exact ⟨Below.refl _ _, 0, rfl, Nat.zero_le _, Nat.zero_le _, rfl, rfl⟩
  case round =>
    obtain ⟨hb, j, rfl, h1, h2, h3, h4⟩ := hrel
    have HB := Lib.hid hb
    have H3 := Lib.hid h3
    have H4 := Lib.hid h4
    clear hb h3 h4
    by_cases ha : j < a.size
    · have z1 : decide ((j : Int) < (a.size : Int)) = true := decide_eq_true (by omega)
      by_cases hb : j < b.size
      · have z2 : decide ((j : Int) < (b.size : Int)) = true := decide_eq_true (by omega)
        have y0 : (0 : Int) ≤ (j : Int) := by omega
        have y1 : (j : Int) < (a.size : Int) := by omega
        have y2 : (j : Int) < (b.size : Int) := by omega
        have da : a.toList.drop j = a[j] :: a.toList.drop (j + 1) := by
          rw [List.drop_eq_getElem_cons (by omega)]
          congr 1
          simp [ByteArray.toList_eq]
          rfl
        have db : b.toList.drop j = b[j] :: b.toList.drop (j + 1) := by
          rw [List.drop_eq_getElem_cons (by omega)]
          congr 1
          simp [ByteArray.toList_eq]
          rfl
        have HDA := Lib.hid da
        have HDB := Lib.hid db
        obtain ⟨x, hx⟩ : ∃ x, x = a[j] := ⟨_, rfl⟩
        obtain ⟨y, hy⟩ : ∃ y, y = b[j] := ⟨_, rfl⟩
        rw [← hx] at HDA
        rw [← hy] at HDB
        have hx2 : (a[j]'ha).toNat = x.toNat := by rw [← hx]
        have hy2 : (b[j]'hb).toNat = y.toNat := by rw [← hy]
        clear da db hx hy
        rcases Nat.lt_trichotomy x.toNat y.toNat with hc | hc | hc
        · have c1 : decide ((x.toNat : Int) < (y.toNat : Int)) = true := decide_eq_true (by omega)
          have c2 : decide (x.toNat < y.toNat) = true := decide_eq_true hc
          have hl : rless a b = -1 := by
            unfold rless
            rw [H3.out, HDA.out, HDB.out]
            have : x < y := hc
            simp [Op.bytesLess, this]
          have HL := Lib.hid hl
          clear hl hc
          go_wp2_with fail
          go_quiet (fail)
          go_wp2_with fail
          go_ret
          exact ⟨by rw [HL.out]; rfl, below_drewN HB.out _⟩
        · have c1 : decide ((x.toNat : Int) < (y.toNat : Int)) = false := decide_eq_false (by omega)
          have c2 : decide (x.toNat < y.toNat) = false := decide_eq_false (by omega)
          have c3 : decide ((y.toNat : Int) < (x.toNat : Int)) = false := decide_eq_false (by omega)
          have c4 : decide (y.toNat < x.toNat) = false := decide_eq_false (by omega)
          have hxy : x = y := UInt8.toNat_inj.1 hc
          have h3 : Nd.lt a b = Op.bytesLess (a.toList.drop (j + 1)) (b.toList.drop (j + 1)) := by
            rw [H3.out, HDA.out, HDB.out, hxy]
            simp [Op.bytesLess]
          have h4 : Nd.lt b a = Op.bytesLess (b.toList.drop (j + 1)) (a.toList.drop (j + 1)) := by
            rw [H4.out, HDA.out, HDB.out, hxy]
            simp [Op.bytesLess]
          have H5 := Lib.hid h3
          have H6 := Lib.hid h4
          clear h3 h4 hc hxy
          go_wp2_with fail
          go_quiet (fail)
          go_wp2_with fail
          go_quiet (fail)
          go_wp2_with fail
          go_roundw
          case rel => exact ⟨below_drewN HB.out _, j + 1, by go_num, by omega, by omega, H5.out, H6.out⟩
          case measure => simp [intOf]; omega
        · have c1 : decide ((x.toNat : Int) < (y.toNat : Int)) = false := decide_eq_false (by omega)
          have c2 : decide (x.toNat < y.toNat) = false := decide_eq_false (by omega)
          have c3 : decide ((y.toNat : Int) < (x.toNat : Int)) = true := decide_eq_true (by omega)
          have c4 : decide (y.toNat < x.toNat) = true := decide_eq_true hc
          have hl : rless a b = 1 := by
            unfold rless
            rw [H3.out, H4.out, HDA.out, HDB.out]
            have h9 : y < x := hc
            have h8 : ¬ x < y := fun h => by have : x.toNat < y.toNat := h; omega
            have h7 : ¬ x = y := fun h => by subst h; omega
            simp [Op.bytesLess, h9, h8, h7]
          have HL := Lib.hid hl
          clear hl hc
          go_wp2_with fail
          go_quiet (fail)
          go_wp2_with fail
          go_quiet (fail)
          go_wp2_with fail
          go_ret
          exact ⟨by rw [HL.out]; rfl, below_drewN (below_drewN HB.out _) _⟩
      · have z2 : decide ((j : Int) < (b.size : Int)) = false := decide_eq_false (by omega)
        have z3 : decide ((a.size : Int) < (b.size : Int)) = false := decide_eq_false (by omega)
        have z4 : decide (a.size < b.size) = false := decide_eq_false (by omega)
        have z5 : decide ((b.size : Int) < (a.size : Int)) = true := decide_eq_true (by omega)
        have z6 : decide (b.size < a.size) = true := decide_eq_true (by omega)
        have hl : rless a b = 1 := by
          unfold rless
          rw [H3.out, H4.out, List.drop_of_length_le (l := b.toList) (by omega), List.drop_eq_getElem_cons (l := a.toList) (by omega)]
          simp [Op.bytesLess]
        have HL := Lib.hid hl
        clear hl
        go_wp2_with fail
        go_ret
        exact ⟨by rw [HL.out]; rfl, HB.out⟩
    · have z1 : decide ((j : Int) < (a.size : Int)) = false := decide_eq_false (by omega)
      have z5 : decide ((b.size : Int) < (a.size : Int)) = false := decide_eq_false (by omega)
      have z6 : decide (b.size < a.size) = false := decide_eq_false (by omega)
      by_cases hb : j < b.size
      · have z3 : decide ((a.size : Int) < (b.size : Int)) = true := decide_eq_true (by omega)
        have z4 : decide (a.size < b.size) = true := decide_eq_true (by omega)
        have hl : rless a b = -1 := by
          unfold rless
          rw [H3.out, List.drop_of_length_le (l := a.toList) (by omega), List.drop_eq_getElem_cons (l := b.toList) (by omega)]
          simp [Op.bytesLess]
        have HL := Lib.hid hl
        clear hl
        go_wp2_with fail
        go_ret
        exact ⟨by rw [HL.out]; rfl, HB.out⟩
      · have z3 : decide ((a.size : Int) < (b.size : Int)) = false := decide_eq_false (by omega)
        have z4 : decide (a.size < b.size) = false := decide_eq_false (by omega)
        have hl : rless a b = 0 := by
          unfold rless
          rw [H3.out, H4.out, List.drop_of_length_le (l := a.toList) (by omega), List.drop_of_length_le (l := b.toList) (by omega)]
          simp [Op.bytesLess]
        have HL := Lib.hid hl
        clear hl
        go_wp2_with fail
        go_ret
        exact ⟨by rw [HL.out]; rfl, HB.out⟩
end Go.Proofs.Ytllafbcnikoohaa
/- The reference: pairs in a row; At, Put. -/
namespace Go.Proofs.Ytllafbcnikoohaa
open Go.RowKit
set_option maxRecDepth 100000
set_option linter.unusedVariables false
set_option linter.unusedSimpArgs false
section
variable {P : Program} (w : World)
theorem run_append_k (base : Nat) (t ty e : TypeId) (i : TypeInfo) (z : Value) (size bytes : Nat) (ht : P.underlying t = some (.slice e)) (hi : P.info? e = some i) (hz : i.zero = some z)
    (hsize : i.size = size) (hby : i.bytes = bytes) (hzs : z.cells.size = size) (h0 : 0 < size)
    (v : Value) (n : Nat) (xs : List Value) (hown : w.ownsRow base e size v n xs)
    (A : Option Addr) (m c : Nat) (news : List Value) (hm : news.length = m * size) (hA : A = none → m = 0) (hr : ∀ ad, A = some ad → ∀ j u, news[j]? = some u → w.cell? (ad.add j) = some u) (h1 : ∀ u ∈ news, u.oneCell' = true)
    (h63 : n + m ≤ maxLen) (hbytes : (n + m) * bytes ≤ 140737488355328) (hbase : base ≤ w.heap.size) :
    ∃ v' w', (Builtin.append_ #[t, t] ty #[v, .slice A m c]).run P w = .ok v' w' ∧ w'.ownsRow base e size v' (n + m) (xs ++ news) ∧ w.grownBy w' v.ownBlock ∧
      (v'.ownBlock = v.ownBlock ∨ v'.ownBlock = some w.heap.size) := by
  rcases A with _ | ad
  · have hm0 := hA rfl
    subst hm0
    have hn : news = [] := List.eq_nil_of_length_eq_zero (by omega)
    subst hn
    exact ⟨v, w, run_append_nil w base t ty e i size ht hi v n xs hown c, by simpa using hown, World.grownBy.refl w _, .inl rfl⟩
  · obtain ⟨v', w', hrun, h2, h3, _, h5⟩ := run_append_own_at (P := P) w base t ty e i z size bytes ht hi hz hsize hby hzs h0 v n xs hown ad m c news hm (hr ad rfl) h1 h63 hbytes hbase
    exact ⟨v', w', hrun, h2, h3, h5⟩
theorem wpList_append_k {ops : Array Oper} {rest : List Oper} {o : Oper} {a : Act} {Q : Exit → Act → World → Prop} (hgd : o.guard = none) (s x : Operand) (t : TypeId)
    (ho : o.op = .call { callee := .builtin .append, args := #[s, x], argTypes := #[t, t] })
    (base : Nat) (e : TypeId) (i : TypeInfo) (z : Value) (size bytes : Nat) (ht : P.underlying t = some (.slice e)) (hi : P.info? e = some i) (hz : i.zero = some z)
    (hsize : i.size = size) (hby : i.bytes = bytes) (hzs : z.cells.size = size) (h0 : 0 < size)
    (v : Value) (n : Nat) (xs : List Value) (hs : a.eval s = v) (hown : w.ownsRow base e size v n xs)
    (A : Option Addr) (m c : Nat) (news : List Value) (hx : a.eval x = .slice A m c) (hm : news.length = m * size) (hA : A = none → m = 0) (hr : ∀ ad, A = some ad → ∀ j u, news[j]? = some u → w.cell? (ad.add j) = some u) (h1 : ∀ u ∈ news, u.oneCell' = true)
    (h63 : n + m ≤ maxLen) (hbytes : (n + m) * bytes ≤ 140737488355328) (hbase : base ≤ w.heap.size)
    (h : ∀ A' c' w', w'.ownsRow base e size (.slice A' (n + m) c') (n + m) (xs ++ news) → w.grownBy w' v.ownBlock → wpList P ops Q rest (a.put o.dst (.slice A' (n + m) c')) w') : wpList P ops Q (o :: rest) a w := by
  refine wpList_plain hgd fun K hK => ?_
  obtain ⟨v', w', hrun, h2, h3, h4⟩ := run_append_k (P := P) w base t o.type e i z size bytes ht hi hz hsize hby hzs h0 v n xs hown A m c news hm hA hr h1 h63 hbytes hbase
  obtain ⟨A', c', rfl, -, -⟩ := own_form h2
  unfold Oper.wp execOp
  simp only [ho, resolve, invoke, builtin, Sem.run_bind, Sem.run_pure, Result.andThen_ok, List.map_toArray, List.map_cons, List.map_nil, hs, hx, hrun]
  exact hK _ _ (h A' c' w' h2 h3)
end
/-- Entries as pairs: a key, a value. -/
def prV (e : En) : List Value := [.string e.cell.key, .string ⟨e.val.toArray⟩]
def flatP (l : List En) : List Value := (l.map prV).flatten
theorem flatP_app (a b : List En) : flatP (a ++ b) = flatP a ++ flatP b := by simp [flatP]
theorem flatP_cons (x : En) (l : List En) : flatP (x :: l) = prV x ++ flatP l := by simp [flatP]
theorem flatP_len : ∀ l : List En, (flatP l).length = l.length * 2
  | [] => rfl
  | x :: l => by rw [flatP_cons, List.length_append, flatP_len l, List.length_cons]; show 2 + _ = _; omega
theorem flatP_get : ∀ (l : List En) (i : Nat) (h : i < l.length) (j : Nat), j < 2 → (flatP l)[i * 2 + j]? = (prV l[i])[j]?
  | x :: l, 0, h, j, hj => by
    rw [flatP_cons, Nat.zero_mul, Nat.zero_add, List.getElem?_append_left (by show j < 2; exact hj)]
    rfl
  | x :: l, i + 1, h, j, hj => by
    rw [flatP_cons, List.getElem?_append_right (by show 2 ≤ _; omega), show (i + 1) * 2 + j - (prV x).length = i * 2 + j by show (i + 1) * 2 + j - 2 = _; omega]
    exact flatP_get l i (by simpa using h) j hj
theorem flatP_one (l : List En) : ∀ u ∈ flatP l, u.oneCell' = true := by
  intro u hu
  obtain ⟨x, hx, hu⟩ := List.mem_flatten.1 hu
  obtain ⟨e, _, rfl⟩ := List.mem_map.1 hx
  simp only [prV, List.mem_cons, List.not_mem_nil, or_false] at hu
  rcases hu with rfl | rfl <;> rfl
/-- A row of pairs of one's own. -/
def POwn (w : World) (B : Nat) (v : Value) (l : List En) : Prop := w.ownsRow B 53 2 v l.length (flatP l)
theorem POwn.below {w w' : World} {B : Nat} {v : Value} {l : List En} (h : POwn w B v l) (hb : Below w.heap.size w w') : POwn w' B v l := (Off.of_below hb []).own h (by simp)
theorem POwn.at {w : World} {B : Nat} {A : Option Addr} {n c : Nat} {l : List En} (h : POwn w B (.slice A n c) l) (i : Nat) (hi : i < l.length) : ∃ g, A = some ⟨g, 0, none⟩ ∧ g < w.heap.size ∧ n = l.length ∧ w.cell? ⟨g, i * 2, none⟩ = some (.string l[i].cell.key) ∧ w.cell? ⟨g, i * 2 + 1, none⟩ = some (.string ⟨l[i].val.toArray⟩) := by
  obtain ⟨_, _, hv, hA, -⟩ := own_form h
  injection hv with e1 e2 e3
  subst e1 e2 e3
  obtain ⟨g, rfl⟩ := hA (by omega)
  have hc := World.ownsRow.cells h (g := g) rfl
  have ha : ∀ k, ((⟨g, 0, none⟩ : Addr).add k) = ⟨g, k, none⟩ := fun k => by rw [addr_add, Nat.zero_add]
  have hg : ∀ k u, (flatP l)[k]? = some u → w.cell? ⟨g, k, none⟩ = some u := fun k u hu => by rw [← ha k]; exact hc k u hu
  exact ⟨g, rfl, (World.ownsRow.lt h g rfl).2, rfl, hg _ _ (flatP_get l i hi 0 (by omega)), hg _ _ (flatP_get l i hi 1 (by omega))⟩
theorem info_pair : (Try.prog.info? 53).map (fun i => (i.zero, i.size, i.bytes)) = some (some (.agg #[.string ByteArray.empty, .string ByteArray.empty]), 2, 32) := by kernel_rfl
set_option maxHeartbeats 8000000 in
theorem pat_any {w : World} {B : Nat} {A : Option Addr} {n c : Nat} {l : List En} (h : POwn w B (.slice A n c) l) (hl : l.length ≤ 10000) (hk : ∀ e ∈ l, e.cell.key.size ≤ 1000) (key : ByteArray) :
    Calls Try.prog 43 #[.slice A n c, .string key] w (fun e w' => e = .returned (.tuple #[.int .i64 (Tr.spotE l key), .bool (Tr.hasE l key)]) ∧ Below w.heap.size w w') := by
  have hn : n = l.length := by
    obtain ⟨_, _, hv, -, -⟩ := own_form h
    injection hv
  subst hn
  have HP := Lib.hid h
  have HK := Lib.hid hk
  clear h hk
  go_enter Try.func43, Try.ntmps43
  go_wp2_with fail
  go_loopw [6] (fun i wr => Below w.heap.size w wr ∧ ∃ j : Nat, i = .int .i64 j ∧ j ≤ l.length ∧ ∀ m (hm : m < l.length), m < j → Nd.lt l[m].cell.key key = true) (fun i _ => l.length - (intOf i).toNat)
  case atStart => exact ⟨Below.refl _ _, 0, rfl, Nat.zero_le _, fun m _ h => by omega⟩
  case round =>
    obtain ⟨hb, j, rfl, hj, hall⟩ := hrel
    have HB := Lib.hid hb
    have HALL := Lib.hid hall
    have hspot : ∀ (h2 : ∀ h : j < l.length, Nd.lt l[j].cell.key key = false), Tr.spotE l key = j := fun h2 => by
      refine Nd.spot_of _ key j (by rwa [List.length_map]) (fun m hm => ?_) (fun hm => ?_)
      · rw [List.getElem_map]; exact hall m (by omega) hm
      · rw [List.length_map] at hm
        rw [List.getElem_map]
        exact h2 hm
    have HSP := Lib.hid hspot
    by_cases hlt : j < l.length
    · have z1 : decide ((j : Int) < (l.length : Int)) = true := decide_eq_true (by omega)
      obtain ⟨g, rfl, lg, -, q0, -⟩ := (HP.out.below hb).at j hlt
      have hks := HK.out _ (List.getElem_mem hlt)
      have HRL := Lib.hid fun (W : World) => rless_any (l[j]'hlt).cell.key key W (by omega)
      have hhas : Tr.spotE l key = j → Tr.hasE l key = ((l[j]'hlt).cell.key.toList == key.toList) := fun hs => by
        unfold Tr.hasE Nd.has
        rw [show Nd.spot (l.map (·.cell)) key = j from hs, List.getElem?_map, List.getElem?_eq_getElem hlt]
        rfl
      have HHS := Lib.hid hhas
      obtain ⟨k, hk⟩ : ∃ k, k = (l[j]'hlt).cell.key := ⟨_, rfl⟩
      have HKQ := Lib.hid hk
      rw [← hk] at q0 HRL HHS
      clear hb hall hspot hhas hks hk
      cases hc : Nd.lt k key with
      | true =>
        have hr : rless k key = -1 := by unfold rless; rw [if_pos hc]
        rw [hr] at HRL
        have HC := Lib.hid hc
        clear hc hr
        go_wp2_with fail
        refine (HRL.out _).mono ?_
        rintro e w2 ⟨rfl, hb2⟩
        have HB2 := Lib.hid (HB.out.trans (hb2.mono HB.out.size))
        clear hb2
        go_wp2_with fail
        go_roundw
        case rel =>
          exact ⟨HB2.out, j + 1, by go_num, by omega, fun m hm h => by
            by_cases e : m = j
            · subst e; rw [← HKQ.out]; exact HC.out
            · exact HALL.out m hm (by omega)⟩
        case measure => simp [intOf]; omega
      | false =>
        have hsp : Tr.spotE l key = j := HSP.out fun _ => by rw [← HKQ.out]; exact hc
        have hr : rless k key = if Nd.lt key k = true then 1 else 0 := by unfold rless; rw [hc]; rfl
        have HS := Lib.hid hsp
        have HH := Lib.hid (HHS.out hsp)
        rw [hr] at HRL
        rcases Nd.lt_total k key with ht | ht | ht
        · rw [hc] at ht; cases ht
        · have e0 : (k.toList == key.toList) = true := by rw [ht]; simp
          have e1 : Nd.lt key k = false := by rw [ht]; exact Nd.lt_irrefl _
          rw [e1] at HRL
          rw [e0] at HH
          clear hc hr hsp ht e0 e1
          go_wp2_with fail
          refine (HRL.out _).mono ?_
          rintro e w2 ⟨rfl, hb2⟩
          have HB2 := Lib.hid (HB.out.trans (hb2.mono HB.out.size))
          clear hb2
          go_wp2_with fail
          go_ret2
          exact ⟨by rw [HS.out, HH.out]; rfl, HB2.out⟩
        · have e0 : (k.toList == key.toList) = false := (Nd.lt_ne ht).2
          rw [ht] at HRL
          rw [e0] at HH
          clear hc hr hsp ht e0
          go_wp2_with fail
          refine (HRL.out _).mono ?_
          rintro e w2 ⟨rfl, hb2⟩
          have HB2 := Lib.hid (HB.out.trans (hb2.mono HB.out.size))
          clear hb2
          go_wp2_with fail
          go_ret2
          exact ⟨by rw [HS.out, HH.out]; rfl, HB2.out⟩
    · have z1 : decide ((j : Int) < (l.length : Int)) = false := decide_eq_false (by omega)
      have hsp : Tr.spotE l key = j := HSP.out fun h => absurd h hlt
      have hha : Tr.hasE l key = false := by
        unfold Tr.hasE Nd.has
        rw [show Nd.spot (l.map (·.cell)) key = j from hsp, List.getElem?_eq_none (by rw [List.length_map]; omega)]
      obtain rfl : j = l.length := by omega
      have HS := Lib.hid hsp
      have HH := Lib.hid hha
      clear hb hall hspot hsp hha
      go_wp2_with fail
      go_ret2
      exact ⟨by rw [HS.out, HH.out]; rfl, HB.out⟩
/-- What a row of pairs tells. -/
def TellsP (l : List En) (w : World) (e : Ending) (w' : World) : Prop := Below w.heap.size w w' ∧ ∃ (A : Option Addr) (c : Nat), e = .returned (.slice A l.length c) ∧ POwn w' w.heap.size (.slice A l.length c) l
theorem POwn.parts {w : World} {B : Nat} {A : Option Addr} {n c : Nat} {l : List En} (h : POwn w B (.slice A n c) l) (i m : Nat) (him : i + m ≤ l.length) :
    (A = none → l.length = 0) ∧ ∀ g, A = some ⟨g, 0, none⟩ → ∀ j u, (flatP ((l.drop i).take m))[j]? = some u → w.cell? ((⟨g, i * 2, none⟩ : Addr).add j) = some u := by
  refine ⟨fun hA => ?_, fun g hA j u hu => ?_⟩
  · obtain ⟨_, _, hv, hA2, -⟩ := own_form h
    injection hv with e1 e2 e3
    subst e1
    by_cases h0 : l.length = 0
    · exact h0
    · obtain ⟨g, hg⟩ := hA2 h0
      rw [hA] at hg
      cases hg
  · subst hA
    have hj : j < m * 2 := by
      have := (List.getElem?_eq_some_iff.1 hu).1
      rw [flatP_len, List.length_take, List.length_drop] at this
      omega
    have hc := World.ownsRow.cells h (g := g) rfl (i * 2 + j) u (by
      have e : l = l.take i ++ ((l.drop i).take m ++ (l.drop i).drop m) := by rw [List.take_append_drop, List.take_append_drop]
      have hl : (flatP (l.take i)).length = i * 2 := by rw [flatP_len, List.length_take]; omega
      have hl2 : (flatP ((l.drop i).take m)).length = m * 2 := by rw [flatP_len, List.length_take, List.length_drop]; omega
      rw [e, flatP_app, flatP_app, List.getElem?_append_right (by omega), hl, Nat.add_sub_cancel_left, List.getElem?_append_left (by omega)]
      exact hu)
    rw [addr_add] at hc ⊢
    rwa [Nat.zero_add] at hc
set_option maxHeartbeats 16000000 in
theorem pput_any {w : World} {B : Nat} {g n c : Nat} {l : List En} (h : POwn w B (.slice (some ⟨g, 0, none⟩) n c) l) (hl : l.length ≤ 10000) (hk : ∀ e ∈ l, e.cell.key.size ≤ 1000) (x : En) :
    Calls Try.prog 24 #[.slice (some ⟨g, 0, none⟩) n c, .string x.cell.key, .string ⟨x.val.toArray⟩] w (TellsP (Tr.putE x.cell.key x l) w) := by
  have hn : n = l.length := by
    obtain ⟨_, _, hv, -, -⟩ := own_form h
    injection hv
  subst hn
  have hcap := own_cap h
  obtain ⟨i0, hi, iz0, iz1, iz2⟩ := info_parts info_pair
  have HAT := Lib.hid (pat_any h hl hk x.cell.key)
  have hsp := Tr.spotE_le l x.cell.key
  have HP := Lib.hid h
  have hput : Tr.putE x.cell.key x l = l.take (Tr.spotE l x.cell.key) ++ ([x] ++ l.drop (if Tr.hasE l x.cell.key then Tr.spotE l x.cell.key + 1 else Tr.spotE l x.cell.key)) := rfl
  have HPUT := Lib.hid hput
  have hlt : Tr.hasE l x.cell.key = true → Tr.spotE l x.cell.key < l.length := fun hh => (Tr.put_old x hh).1
  obtain ⟨s, hs⟩ : ∃ s, s = Tr.spotE l x.cell.key := ⟨_, rfl⟩
  obtain ⟨q, hq⟩ : ∃ q, q = Tr.hasE l x.cell.key := ⟨_, rfl⟩
  rw [← hs] at HAT hsp HPUT hlt
  rw [← hq] at HAT HPUT hlt
  clear h hk hput hs hq
  have y1 : (s : Int) ≤ (c : Int) := by omega
  have y2 : (0 : Int) ≤ (s : Int) := by omega
  have y5 : (s : Int) ≤ (l.length : Int) := by omega
  have y6 : (l.length : Int) ≤ (c : Int) := by omega
  have HTAKE := Lib.hid (show flatP [] ++ flatP (l.take s) = flatP (l.take s) from rfl)
  have HDA := Lib.hid (show ∀ (e : Nat) (W : World), e ≤ l.length → POwn W B (.slice (some ⟨g, 0, none⟩) l.length c) l → ∀ ad, some (⟨g, e * 2, none⟩ : Addr) = some ad → ∀ j u, (flatP (l.drop e))[j]? = some u → W.cell? (ad.add j) = some u from fun e W he hW ad had j u hu => by
    injection had with had
    rw [← had]
    exact (hW.parts e (l.length - e) (by omega)).2 g rfl j u (by rw [List.take_of_length_le (by rw [List.length_drop]; omega)]; exact hu))
  have HDB := Lib.hid (show ∀ (e : Nat) (W : World), l.length ≤ e → ∀ (ad a0 : Addr), some a0 = some ad → ∀ j u, (flatP (l.drop e))[j]? = some u → W.cell? (ad.add j) = some u from fun e W he ad a0 had j u hu => by
    rw [List.drop_of_length_le he] at hu
    simp [flatP] at hu)
  obtain ⟨e0, he0⟩ : ∃ e0, e0 = (if q = true then s + 1 else s) := ⟨_, rfl⟩
  by_cases hcs : e0 = c
  all_goals cases q
  all_goals
    simp only [if_true, if_false, Bool.false_eq_true] at he0
    have he0 := he0.symm
    subst he0
    try subst hcs
    try have y3 : (s : Int) + 1 ≤ (l.length : Int) := by have := hlt rfl; omega
    try have y4 : (0 : Int) ≤ (s : Int) + 1 := by omega
    clear hlt
    go_enter Try.func24, Try.ntmps24
    go_wp2_with fail
    refine HAT.out.mono ?_
    rintro e w1 ⟨rfl, hb1⟩
    have HB1 := Lib.hid hb1
    have HP1 := Lib.hid (HP.out.below hb1)
    clear hb1
    have HNIL := Lib.hid (show (w1.alloc (.cells #[] 53)).ownsRow w.heap.size 53 2 (.slice (some ⟨w1.heap.size, 0, none⟩) 0 0) 0 (flatP []) from World.ownsRow_lit w1 #[] 0 HB1.out.size (by unfold maxLen; omega) rfl)
    go_wp2_with (first
      | (at_builtin; refine wpList_append_k _ rfl (.tmp 17) (.tmp 20) 25 rfl w.heap.size 53 i0 _ 2 32 Try.underlying25 hi iz0 iz1 iz2 rfl (by omega) _ 0 (flatP []) rfl HNIL.out _ s _ (flatP (l.take s)) rfl (by rw [flatP_len, List.length_take]; omega) (fun hh => by cases hh) (fun ad had j u hu => by
          injection had with had
          subst had
          have h9 := (HP1.out.below ((Below.refl _ _).alloc (Nat.le_refl _) (.cells #[] 53))).parts 0 s (by omega)
          have h8 := h9.2 g rfl j u (by rw [List.drop_zero]; exact hu)
          rwa [Nat.zero_mul] at h8) (flatP_one _) (by unfold maxLen; omega) (by omega) (by have := HB1.out.size; simp; omega) ?_;
         intro A1 c1 w2 hown2 hgrow2; rw [Nat.zero_add] at hown2 ⊢;
         have HN2 := Lib.hid (((Off.of_below (HB1.out.alloc HB1.out.size (.cells #[] 53)) []).grown hgrow2 (fun g' hg' => .inr (by have e : some w1.heap.size = some g' := hg'; injection e with e; have := HB1.out.size; omega))).below (Nat.le_refl _) (by simp));
         have HP2 := Lib.hid (HP.out.below HN2.out);
         have HO2 := Lib.hid (show w2.ownsRow w.heap.size 53 2 (.slice A1 s c1) s (flatP (l.take s)) from hown2); clear hown2 hgrow2)
      | (at_builtin; refine wpList_append_lies _ rfl (.tmp 22) (.tmp 26) 25 rfl w.heap.size 53 i0 _ 2 32 Try.underlying25 hi iz0 iz1 iz2 rfl (by omega) (.slice A1 s c1) s (flatP (l.take s)) rfl (HO2.out.alloc _) ⟨w2.heap.size, 0, none⟩ 1 1 [.string x.cell.key, .string ⟨x.val.toArray⟩] rfl rfl (World.news_of_block (cs := #[.string x.cell.key, .string ⟨x.val.toArray⟩]) (heap_alloc_new w2 _)) (by simp [Value.oneCell']) (by omega) (by unfold maxLen; omega) (by omega) (by have := HN2.out.size; simp; omega) (w2.heap.size + 1) (by simp) ?_;
         intro gg c2 w3 hown3 hgrow3 hat3 hlt3;
         have HN3 := Lib.hid (((Off.of_below (HN2.out.alloc HN2.out.size (.cells #[.string x.cell.key, .string ⟨x.val.toArray⟩] 53)) []).grown hgrow3 (fun g' hg' => .inr (World.ownsRow.lt HO2.out g' hg').1)).below (Nat.le_refl _) (by simp));
         have HP3 := Lib.hid (HP.out.below HN3.out);
         have HO3 := Lib.hid (show w3.ownsRow w.heap.size 53 2 (.slice (some ⟨gg, 0, none⟩) (s + 1) c2) (s + 1) (flatP (l.take s ++ [x])) from by rw [flatP_app]; exact hown3); clear hown3 hgrow3 hat3)
      | (at_builtin; refine wpList_append_k _ rfl (.tmp 31) (.tmp 34) 25 rfl w.heap.size 53 i0 _ 2 32 Try.underlying25 hi iz0 iz1 iz2 rfl (by omega) (.slice (some ⟨gg, 0, none⟩) (s + 1) c2) (s + 1) (flatP (l.take s ++ [x])) rfl HO3.out _ (l.length - s) _ (flatP (l.drop (s))) rfl (by rw [flatP_len, List.length_drop] <;> omega) (fun hh => by cases hh) (fun ad had => HDA.out _ w3 (by omega) HP3.out ad had) (flatP_one _) (by unfold maxLen; omega) (by omega) (by have := HN3.out.size; omega) ?_;
         intro A4 c4 w4 hown4 hgrow4;
         have HN4 := Lib.hid ((((Off.of_below HN3.out []).grown hgrow4 (fun g' hg' => .inr (World.ownsRow.lt HO3.out g' hg').1))).below (Nat.le_refl _) (by simp));
         have HL9 := Lib.hid (show (l.take s ++ [x] ++ l.drop (s)).length = s + 1 + (l.length - s) from by simp; omega);
         have HE9 := Lib.hid (show Tr.putE x.cell.key x l = l.take s ++ [x] ++ l.drop (s) from by rw [List.append_assoc]; exact HPUT.out);
         have HO4 := Lib.hid (show POwn w4 w.heap.size (.slice A4 (s + 1 + (l.length - s)) c4) (l.take s ++ [x] ++ l.drop (s)) from by unfold POwn; rw [HL9.out, flatP_app]; exact hown4); clear hown4 hgrow4)
      | (at_builtin; refine wpList_append_k _ rfl (.tmp 31) (.tmp 34) 25 rfl w.heap.size 53 i0 _ 2 32 Try.underlying25 hi iz0 iz1 iz2 rfl (by omega) (.slice (some ⟨gg, 0, none⟩) (s + 1) c2) (s + 1) (flatP (l.take s ++ [x])) rfl HO3.out _ (0) _ (flatP (l.drop (s))) rfl (by rw [flatP_len, List.length_drop] <;> omega) (fun hh => by cases hh) (fun ad had => HDB.out _ w3 (by omega) ad _ had) (flatP_one _) (by unfold maxLen; omega) (by omega) (by have := HN3.out.size; omega) ?_;
         intro A4 c4 w4 hown4 hgrow4;
         have HN4 := Lib.hid ((((Off.of_below HN3.out []).grown hgrow4 (fun g' hg' => .inr (World.ownsRow.lt HO3.out g' hg').1))).below (Nat.le_refl _) (by simp));
         have HL9 := Lib.hid (show (l.take s ++ [x] ++ l.drop (s)).length = s + 1 + (0) from by simp; omega);
         have HE9 := Lib.hid (show Tr.putE x.cell.key x l = l.take s ++ [x] ++ l.drop (s) from by rw [List.append_assoc]; exact HPUT.out);
         have HO4 := Lib.hid (show POwn w4 w.heap.size (.slice A4 (s + 1 + (0)) c4) (l.take s ++ [x] ++ l.drop (s)) from by unfold POwn; rw [HL9.out, flatP_app]; exact hown4); clear hown4 hgrow4)
      | (at_builtin; refine wpList_append_k _ rfl (.tmp 31) (.tmp 34) 25 rfl w.heap.size 53 i0 _ 2 32 Try.underlying25 hi iz0 iz1 iz2 rfl (by omega) (.slice (some ⟨gg, 0, none⟩) (s + 1) c2) (s + 1) (flatP (l.take s ++ [x])) rfl HO3.out _ (l.length - (s + 1)) _ (flatP (l.drop (s + 1))) rfl (by rw [flatP_len, List.length_drop] <;> omega) (fun hh => by cases hh) (fun ad had => HDA.out _ w3 (by omega) HP3.out ad had) (flatP_one _) (by unfold maxLen; omega) (by omega) (by have := HN3.out.size; omega) ?_;
         intro A4 c4 w4 hown4 hgrow4;
         have HN4 := Lib.hid ((((Off.of_below HN3.out []).grown hgrow4 (fun g' hg' => .inr (World.ownsRow.lt HO3.out g' hg').1))).below (Nat.le_refl _) (by simp));
         have HL9 := Lib.hid (show (l.take s ++ [x] ++ l.drop (s + 1)).length = s + 1 + (l.length - (s + 1)) from by simp; omega);
         have HE9 := Lib.hid (show Tr.putE x.cell.key x l = l.take s ++ [x] ++ l.drop (s + 1) from by rw [List.append_assoc]; exact HPUT.out);
         have HO4 := Lib.hid (show POwn w4 w.heap.size (.slice A4 (s + 1 + (l.length - (s + 1))) c4) (l.take s ++ [x] ++ l.drop (s + 1)) from by unfold POwn; rw [HL9.out, flatP_app]; exact hown4); clear hown4 hgrow4)
      | (at_builtin; refine wpList_append_k _ rfl (.tmp 31) (.tmp 34) 25 rfl w.heap.size 53 i0 _ 2 32 Try.underlying25 hi iz0 iz1 iz2 rfl (by omega) (.slice (some ⟨gg, 0, none⟩) (s + 1) c2) (s + 1) (flatP (l.take s ++ [x])) rfl HO3.out _ (0) _ (flatP (l.drop (s + 1))) rfl (by rw [flatP_len, List.length_drop] <;> omega) (fun hh => by cases hh) (fun ad had => HDB.out _ w3 (by omega) ad _ had) (flatP_one _) (by unfold maxLen; omega) (by omega) (by have := HN3.out.size; omega) ?_;
         intro A4 c4 w4 hown4 hgrow4;
         have HN4 := Lib.hid ((((Off.of_below HN3.out []).grown hgrow4 (fun g' hg' => .inr (World.ownsRow.lt HO3.out g' hg').1))).below (Nat.le_refl _) (by simp));
         have HL9 := Lib.hid (show (l.take s ++ [x] ++ l.drop (s + 1)).length = s + 1 + (0) from by simp; omega);
         have HE9 := Lib.hid (show Tr.putE x.cell.key x l = l.take s ++ [x] ++ l.drop (s + 1) from by rw [List.append_assoc]; exact HPUT.out);
         have HO4 := Lib.hid (show POwn w4 w.heap.size (.slice A4 (s + 1 + (0)) c4) (l.take s ++ [x] ++ l.drop (s + 1)) from by unfold POwn; rw [HL9.out, flatP_app]; exact hown4); clear hown4 hgrow4)
      | fail)
    go_ret
    exact ⟨HN4.out, A4, c4, by rw [HE9.out, HL9.out]; rfl, by rw [HE9.out, HL9.out]; exact HO4.out⟩
end Go.Proofs.Ytllafbcnikoohaa
