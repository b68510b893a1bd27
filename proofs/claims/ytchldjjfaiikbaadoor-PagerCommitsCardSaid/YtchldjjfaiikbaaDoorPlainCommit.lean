/- Commits, wherever the power goes. Plain. -/
import Derived.Test.YtchldjjfaiikbaaDoorPagerSeal
namespace Go.Proofs.YtchldjjfaiikbaaDoor
open Go.PlainAid
set_option maxRecDepth 100000
set_option linter.unusedVariables false

/-- Two metas on a device's first sectors, m the newer. -/
structure Two (D : DevS) (m o : MetaV) : Prop where
  on : D.off = false
  row : D.row = []
  len : D.sec.length = 24
  mok : m.ok = true
  ook : o.ok = true
  ml : m.l = 6
  lt : o.t < m.t
  at' : (m.t % 2 = 0 ∧ o.t % 2 = 1 ∧ D.sec[0]? = some m.bytes ∧ D.sec[1]? = some o.bytes) ∨ (m.t % 2 = 1 ∧ o.t % 2 = 0 ∧ D.sec[0]? = some o.bytes ∧ D.sec[1]? = some m.bytes)

theorem read_at {D : DevS} (ho : D.off = false) (hr : D.row = []) {i : Nat} {s : ByteArray} (hi : D.sec[i]? = some s) : D.read (i : Int) = (s, 0) := by
  obtain ⟨h1, h2⟩ := List.getElem?_eq_some_iff.1 hi
  rw [read_still ho hr h1, h2]
theorem Two.opens {D : DevS} {m o : MetaV} (h : Two D m o) : openR D = 0 ∧ ∃ x b, openP D = ⟨m, x, b, none, []⟩ := by
  obtain ⟨a0, b0⟩ := unmV_of h.mok
  obtain ⟨a1, b1⟩ := unmV_of h.ook
  have t0 : unmT m.bytes = m.t := congrArg MetaV.t b0
  have t1 : unmT o.bytes = o.t := congrArg MetaV.t b1
  have l0 : unmL m.bytes = 6 := (congrArg MetaV.l b0).trans h.ml
  have hl : (D.sec.length : Int) / 4 = 6 := by rw [h.len]; rfl
  have lt := h.lt
  rcases h.at' with ⟨_, _, s0, s1⟩ | ⟨_, _, s0, s1⟩
  · have r0 := read_at h.on h.row s0
    have r1 := read_at h.on h.row s1
    have hw : nwI m.bytes o.bytes = false := by unfold nwI; rw [a0, a1, t0, t1]; simp; omega
    have hs : nwS m.bytes o.bytes = m.bytes := by unfold nwS; rw [hw]; rfl
    have r0' : D.read 0 = (m.bytes, 0) := r0
    have r1' : D.read 1 = (o.bytes, 0) := r1
    constructor
    · unfold openR
      rw [r0', r1', if_neg (by simp), if_neg (by simp), hs, if_pos ⟨a0, by rw [l0, hl]; omega⟩]
    · refine ⟨unmV o.bytes, unmB o.bytes, ?_⟩
      unfold openP restS
      rw [r0', r1', hs, hw, b0]
      rfl
  · have r0 := read_at h.on h.row s0
    have r1 := read_at h.on h.row s1
    have hw : nwI o.bytes m.bytes = true := by unfold nwI; rw [a0, a1, t0, t1]; simp; omega
    have hs : nwS o.bytes m.bytes = m.bytes := by unfold nwS; rw [hw]; rfl
    have r0' : D.read 0 = (o.bytes, 0) := r0
    have r1' : D.read 1 = (m.bytes, 0) := r1
    constructor
    · unfold openR
      rw [r0', r1', if_neg (by simp), if_neg (by simp), hs, if_pos ⟨a0, by rw [l0, hl]; omega⟩]
    · refine ⟨unmV o.bytes, unmB o.bytes, ?_⟩
      unfold openP restS
      rw [r0', r1', hs, hw, b0]
      rfl

/-- A device that has one write waiting. -/
theorem waits_one {k : Nat} {s : ByteArray} (i : Nat) : waitsOf [(k, s)] i = if i = k then [s] else [] := by
  unfold waitsOf
  by_cases h : i = k
  · subst h; simp
  · rw [if_neg h]
    have : (k == i) = false := by simpa using fun e => h e.symm
    simp [this]
theorem synced_one {D : DevS} {k : Nat} {s : ByteArray} (hr : D.row = [(k, s)]) (i : Nat) (hi : i < D.sec.length) : D.synced.sec[i]? = if i = k then some s else D.sec[i]? := by
  unfold DevS.synced
  simp only [List.getElem?_map, List.getElem?_range hi, Option.map_some]
  unfold DevS.latest DevS.waits
  rw [hr, waits_one]
  by_cases h : i = k
  · rw [if_pos h, if_pos h]; rfl
  · rw [if_neg h, if_neg h]
    simp [hi]
theorem start_same {D : DevS} (ho : D.off = true) (hr : D.row = []) (picks : List Int) : D.start picks = ({ D with off := false }, 0) := by
  unfold DevS.start
  rw [ho, if_pos rfl]
  have e : (List.range D.sec.length).map (D.kept picks) = D.sec := by
    refine List.ext_getElem (by simp) (fun i h1 h2 => ?_)
    simp only [List.getElem_map, List.getElem_range]
    have hb : D.busy i = false := by unfold DevS.busy DevS.waits; rw [hr]; rfl
    rw [kept_idle hb, List.getD_eq_getElem?_getD, List.getElem?_eq_getElem h2]
    rfl
  rw [e, hr]
theorem start_one {D : DevS} {k : Nat} {s : ByteArray} (ho : D.off = true) (hr : D.row = [(k, s)]) (hk : k < D.sec.length) (picks : List Int) :
    ∃ sec', D.start picks = ({ D with sec := sec', row := [], off := false }, 0) ∧ sec'.length = D.sec.length ∧ (∀ i, i ≠ k → i < D.sec.length → sec'[i]? = D.sec[i]?) ∧ (sec'[k]? = D.sec[k]? ∨ sec'[k]? = some s) := by
  refine ⟨(List.range D.sec.length).map (D.kept picks), ?_, by simp, fun i hi hl => ?_, ?_⟩
  · unfold DevS.start
    rw [ho, if_pos rfl]
  · have hb : D.busy i = false := by unfold DevS.busy DevS.waits; rw [hr, waits_one, if_neg hi]; rfl
    simp only [List.getElem?_map, List.getElem?_range hl, Option.map_some]
    rw [kept_idle hb, List.getD_eq_getElem?_getD, List.getElem?_eq_getElem hl]
    rfl
  · simp only [List.getElem?_map, List.getElem?_range hk, Option.map_some]
    unfold DevS.kept
    split
    · left
      rw [List.getD_eq_getElem?_getD, List.getElem?_eq_getElem hk]
      rfl
    · right
      rename_i hne
      have hw : D.waits k = [s] := by unfold DevS.waits; rw [hr, waits_one, if_pos rfl]
      rw [hw] at hne ⊢
      have : DevS.pick picks (D.turn k) % ([s].length + 1) - 1 = 0 := by
        have := Nat.mod_lt (DevS.pick picks (D.turn k)) (show 0 < [s].length + 1 by simp)
        simp at this ⊢
        omega
      rw [this]
      rfl

/-- What a Seal of the next meta does to such a device, with a fuse. -/
theorem seal_write {D : DevS} {m o m' : MetaV} (h : Two D m o) (hot : o.t + 1 = m.t) (hm' : m'.ok = true) (ht : m'.t = m.t + 1) (hf : 0 ≤ D.fuse) :
    (D.fuse = 1 → D.write (m'.t % 2) m'.bytes = ({ D with off := true, fuse := 0, steps := D.steps + 1 }, 6)) ∧
    (D.fuse ≠ 1 → D.write (m'.t % 2) m'.bytes = ({ D with row := [((m'.t % 2).toNat, m'.bytes)], fuse := max 0 (D.fuse - 1), steps := D.steps + 1, writes := D.writes + 1 }, 0)) := by
  have hin : D.isIn (m'.t % 2) = true := DevS.isIn_iff.2 ⟨by omega, by rw [h.len]; omega⟩
  have hs := MetaV.size hm'
  have hc : (D.isIn (m'.t % 2) && m'.bytes.size == 128) = true := by rw [hin, hs]; rfl
  have ho := h.on
  have hr := h.row
  obtain ⟨sec, row, off, fuse, steps, writes⟩ := D
  simp only at ho hr hf
  subst ho
  subst hr
  constructor
  · intro h1
    simp only at h1
    subst h1
    unfold DevS.write
    rw [hc]
    rfl
  · intro h1
    simp only at h1
    have e : (fuse == 1) = false := by simpa using h1
    unfold DevS.write DevS.stepOk DevS.stepped
    rw [hc]
    simp only [e]
    rfl
theorem sync_one {D : DevS} (ho : D.off = false) : (D.fuse = 1 → D.sync = ({ D with off := true, fuse := 0, steps := D.steps + 1 }, 6)) ∧
    (D.fuse ≠ 1 → D.sync = (({ D with fuse := max 0 (D.fuse - 1), steps := D.steps + 1 } : DevS).synced, 0)) := by
  obtain ⟨sec, row, off, fuse, steps, writes⟩ := D
  simp only at ho
  subst ho
  constructor
  · intro h1
    simp only at h1
    subst h1
    rfl
  · intro h1
    simp only at h1
    have e : (fuse == 1) = false := by simpa using h1
    unfold DevS.sync DevS.stepOk DevS.stepped
    simp only [e]
    rfl
/-- The sectors where the new meta's is written. -/
theorem Two.next {D E : DevS} {m o m' : MetaV} (h : Two D m o) (hot : o.t + 1 = m.t) (hm' : m'.ok = true) (ht : m'.t = m.t + 1) (hl : m'.l = 6) (he1 : E.off = false) (he2 : E.row = []) (he3 : E.sec.length = 24)
    (hs : ∀ i, i < 24 → E.sec[i]? = if i = (m'.t % 2).toNat then some m'.bytes else D.sec[i]?) : Two E m' m := by
  refine ⟨he1, he2, he3, hm', h.mok, hl, by omega, ?_⟩
  have s0 := hs 0 (by omega)
  have s1 := hs 1 (by omega)
  rcases h.at' with ⟨p1, p2, q0, q1⟩ | ⟨p1, p2, q0, q1⟩
  · have hp : m'.t % 2 = 1 := by omega
    rw [hp] at s0 s1
    refine .inr ⟨hp, p1, ?_, ?_⟩
    · rw [s0, if_neg (by decide), q0]
    · rw [s1, if_pos (by decide)]
  · have hp : m'.t % 2 = 0 := by omega
    rw [hp] at s0 s1
    refine .inl ⟨hp, p1, ?_, ?_⟩
    · rw [s0, if_pos (by decide)]
    · rw [s1, if_neg (by decide), q1]
theorem Two.same {D E : DevS} {m o : MetaV} (h : Two D m o) (he1 : E.off = false) (he2 : E.row = []) (he3 : E.sec.length = 24) (hs : ∀ i, i < 24 → E.sec[i]? = D.sec[i]?) : Two E m o := by
  refine ⟨he1, he2, he3, h.mok, h.ook, h.ml, h.lt, ?_⟩
  rw [hs 0 (by omega), hs 1 (by omega)]
  exact h.at'

/-- The device behind the write of a meta; behind the sync. -/
def afterW (D : DevS) (m' : MetaV) : DevS := ⟨D.sec, [((m'.t % 2).toNat, m'.bytes)], D.off, max 0 (D.fuse - 1), D.steps + 1, D.writes + 1⟩
def afterS (D : DevS) (m' : MetaV) : DevS := (⟨D.sec, [((m'.t % 2).toNat, m'.bytes)], D.off, max 0 (max 0 (D.fuse - 1) - 1), D.steps + 1 + 1, D.writes + 1⟩ : DevS).synced
theorem afterS_sec {D : DevS} {m' : MetaV} (hl : D.sec.length = 24) (i : Nat) (hi : i < 24) : (afterS D m').sec[i]? = if i = (m'.t % 2).toNat then some m'.bytes else D.sec[i]? :=
  synced_one (D := ⟨D.sec, [((m'.t % 2).toNat, m'.bytes)], D.off, max 0 (max 0 (D.fuse - 1) - 1), D.steps + 1 + 1, D.writes + 1⟩) rfl i (by show i < D.sec.length; rw [hl]; exact hi)
theorem afterS_len {D : DevS} {m' : MetaV} (hl : D.sec.length = 24) : (afterS D m').sec.length = 24 := by unfold afterS DevS.synced; simp [hl]

/-- One commit without a fuse. -/
theorem commit_plain {D : DevS} {m o m' : MetaV} (h : Two D m o) (hot : o.t + 1 = m.t) (hm' : m'.ok = true) (ht : m'.t = m.t + 1) (hl : m'.l = 6) (hf : D.fuse = 0) :
    ∃ D1 D2, D.write (m'.t % 2) m'.bytes = (D1, 0) ∧ D1.sync = (D2, 0) ∧ Two D2 m' m ∧ D2.fuse = 0 ∧ D1.steps = D.steps + 1 ∧ D2.steps = D.steps + 2 := by
  have h1 : D.write (m'.t % 2) m'.bytes = (afterW D m', 0) := (seal_write h hot hm' ht (by omega)).2 (by omega)
  have h2 : (afterW D m').sync = (afterS D m', 0) := (sync_one (D := afterW D m') h.on).2 (by show max 0 (D.fuse - 1) ≠ 1; omega)
  refine ⟨_, _, h1, h2, h.next hot hm' ht hl h.on rfl (afterS_len h.len) (afterS_sec h.len), ?_, rfl, ?_⟩
  · show max 0 (max 0 (D.fuse - 1) - 1) = 0
    omega
  · show D.steps + 1 + 1 = _
    omega

/-- A commit under a fuse, and the start behind it. -/
theorem commit_fused {D : DevS} {m o m' : MetaV} (h : Two D m o) (hot : o.t + 1 = m.t) (hm' : m'.ok = true) (ht : m'.t = m.t + 1) (hl : m'.l = 6) (hf : 0 ≤ D.fuse) (picks : List Int) :
    (∃ D1 E, D.write (m'.t % 2) m'.bytes = (D1, 6) ∧ D1.off = true ∧ D1.start picks = (E, 0) ∧ Two E m o ∧ D1.steps = D.steps + 1 ∧ E.steps = D.steps + 1) ∨
    (∃ D1 D2 E, D.write (m'.t % 2) m'.bytes = (D1, 0) ∧ D1.sync = (D2, 6) ∧ D2.off = true ∧ D2.start picks = (E, 0) ∧ (Two E m o ∨ Two E m' m) ∧ D1.steps = D.steps + 1 ∧ D2.steps = D.steps + 2 ∧ E.steps = D.steps + 2) ∨
    (∃ D1 D2 D3 E, D.write (m'.t % 2) m'.bytes = (D1, 0) ∧ D1.sync = (D2, 0) ∧ D2.off = false ∧ D2.cut = (D3, 0) ∧ D3.start picks = (E, 0) ∧ Two E m' m ∧ D1.steps = D.steps + 1 ∧ D2.steps = D.steps + 2 ∧ D3.steps = D.steps + 2 ∧ E.steps = D.steps + 2) := by
  by_cases h1 : D.fuse = 1
  · have hs := start_same (D := ⟨D.sec, D.row, true, 0, D.steps + 1, D.writes⟩) rfl h.row picks
    exact .inl ⟨_, _, (seal_write h hot hm' ht hf).1 h1, rfl, hs, h.same rfl h.row h.len (fun i _ => rfl), rfl, rfl⟩
  · have hw : D.write (m'.t % 2) m'.bytes = (afterW D m', 0) := (seal_write h hot hm' ht hf).2 h1
    by_cases h2 : D.fuse = 2
    · have hs : (afterW D m').sync = (⟨D.sec, [((m'.t % 2).toNat, m'.bytes)], true, 0, D.steps + 1 + 1, D.writes + 1⟩, 6) := (sync_one (D := afterW D m') h.on).1 (by show max 0 (D.fuse - 1) = 1; omega)
      have hk : (m'.t % 2).toNat < D.sec.length := by rw [h.len]; omega
      obtain ⟨sec', e1, e2, e3, e4⟩ := start_one (D := ⟨D.sec, [((m'.t % 2).toNat, m'.bytes)], true, 0, D.steps + 1 + 1, D.writes + 1⟩) (k := (m'.t % 2).toNat) (s := m'.bytes) rfl rfl hk picks
      refine .inr (.inl ⟨_, _, _, hw, hs, rfl, e1, ?_, rfl, by show D.steps + 1 + 1 = _; omega, by show D.steps + 1 + 1 = _; omega⟩)
      have e2' : sec'.length = 24 := e2.trans h.len
      rcases e4 with e4 | e4
      · refine .inl (h.same rfl rfl e2' (fun i hi => ?_))
        by_cases hik : i = (m'.t % 2).toNat
        · subst hik; exact e4
        · exact e3 i hik (by show i < D.sec.length; rw [h.len]; exact hi)
      · refine .inr (h.next hot hm' ht hl rfl rfl e2' (fun i hi => ?_))
        by_cases hik : i = (m'.t % 2).toNat
        · subst hik; rw [if_pos rfl]; exact e4
        · rw [if_neg hik]; exact e3 i hik (by show i < D.sec.length; rw [h.len]; exact hi)
    · have hs : (afterW D m').sync = (afterS D m', 0) := (sync_one (D := afterW D m') h.on).2 (by show max 0 (D.fuse - 1) ≠ 1; omega)
      have hoff : (afterS D m').off = false := h.on
      have hc : (afterS D m').cut = ({ afterS D m' with off := true, fuse := 0 }, 0) := by unfold DevS.cut; rw [hoff]; rfl
      have hst := start_same (D := { afterS D m' with off := true, fuse := 0 }) rfl rfl picks
      refine .inr (.inr ⟨_, _, _, _, hw, hs, hoff, hc, hst, ?_, rfl, by show D.steps + 1 + 1 = _; omega, by show D.steps + 1 + 1 = _; omega, by show D.steps + 1 + 1 = _; omega⟩)
      exact h.next hot hm' ht hl rfl rfl (afterS_len h.len) (afterS_sec h.len)
end Go.Proofs.YtchldjjfaiikbaaDoor
