import Derived.Test.YtjbcbnemdhbhbaaGreatDoorG9
import Derived.Test.YtjbcbnemdhbhbaaGreatDoorG23
import Derived.Deep.RegionHeld3
import Derived.WalkSpells
import Derived.Test.YtjbcbnemdhbhbaaGreatDoorG7
import Derived.Test.YtjbcbnemdhbhbaaGreatDoorG2
import Derived.Test.YtjbcbnemdhbhbaaGreatDoorG5
import Derived.Test.YtjbcbnemdhbhbaaGreatDoorG4
import Derived.LoopN
namespace Go.Proofs.YtjbcbnemdhbhbaaGreatDoor
open Go.PlainAid
set_option maxRecDepth 100000
def fmt0 (limit : Int) : MetaV := ⟨0, 0, 0, 1, limit⟩
def fmt1 (limit : Int) : MetaV := ⟨1, 0, 0, 1, limit⟩
theorem fmt0_ok {limit : Int} (h : 4 ≤ limit ∧ limit ≤ 512) : (fmt0 limit).ok = true := show rightM 0 0 0 1 limit = true from rightM_of (by omega)
theorem fmt1_ok {limit : Int} (h : 4 ≤ limit ∧ limit ≤ 512) : (fmt1 limit).ok = true := show rightM 1 0 0 1 limit = true from rightM_of (by omega)
def fmtDev (n : Nat) (limit : Int) : DevS := ⟨(List.range n).map fun i => if i = 0 then (fmt0 limit).bytes else if i = 1 then (fmt1 limit).bytes else DevS.noughts, [], false, 0, 3, 2⟩
theorem write_fresh {d : DevS} {i : Int} {s : ByteArray} (ho : d.off = false) (hf : d.fuse = 0) (hi : d.isIn i = true) (hs : s.size = 128) :
   d.write i s = ({ d with row := d.row ++ [(i.toNat, s)], steps := d.steps + 1, writes := d.writes + 1 }, 0) := by
 obtain ⟨sec, row, off, fuse, steps, writes⟩ := d
 simp only at ho hf
 subst ho
 subst hf
 unfold DevS.write
 rw [hi, hs]
 rfl
theorem format_new {n : Nat} {limit : Int} (h : 4 ≤ limit ∧ limit ≤ 512) (hn : 4 * limit ≤ (n : Int)) : formatD (DevS.new n) limit = (fmtDev n limit, 0) := by
 have e0 : metaS 0 0 0 1 limit = (fmt0 limit).bytes := rfl
 have e1 : metaS 1 0 0 1 limit = (fmt1 limit).bytes := rfl
 have s0 := MetaV.size (fmt0_ok h)
 have s1 := MetaV.size (fmt1_ok h)
 have l0 : (DevS.new n).sec.length = n := by simp [DevS.new]
 have w0 : (DevS.new n).write 0 (fmt0 limit).bytes = (⟨(DevS.new n).sec, [(0, (fmt0 limit).bytes)], false, 0, 1, 1⟩, 0) := write_fresh rfl rfl (DevS.isIn_iff.2 ⟨by omega, by rw [l0]; omega⟩) s0
 have w1 : (⟨(DevS.new n).sec, [(0, (fmt0 limit).bytes)], false, 0, 1, 1⟩ : DevS).write 1 (fmt1 limit).bytes = (⟨(DevS.new n).sec, [(0, (fmt0 limit).bytes), (1, (fmt1 limit).bytes)], false, 0, 2, 2⟩, 0) := write_fresh rfl rfl (DevS.isIn_iff.2 ⟨by omega, by simp only; rw [l0]; omega⟩) s1
 unfold formatD
 rw [if_pos ⟨h.1, h.2, by rw [l0]; exact hn⟩, e0, e1, w0]
 simp only [ne_eq, not_true, if_false]
 rw [w1]
 simp only [not_true, if_false]
 unfold DevS.sync
 rw [show (⟨(DevS.new n).sec, [(0, (fmt0 limit).bytes), (1, (fmt1 limit).bytes)], false, 0, 2, 2⟩ : DevS).stepOk = true from rfl, if_pos rfl]
 refine Prod.ext ?_ rfl
 show DevS.synced (⟨(DevS.new n).sec, [(0, (fmt0 limit).bytes), (1, (fmt1 limit).bytes)], false, 0, 3, 2⟩ : DevS) = _
 unfold DevS.synced fmtDev
 simp only [l0]
 congr 1
 refine List.map_congr_left (fun i hi => ?_)
 have hi' : i < n := List.mem_range.1 hi
 unfold DevS.latest DevS.waits waitsOf
 by_cases h0 : i = 0
 · subst h0
   simp
 · by_cases h1 : i = 1
   · subst h1
     simp
   · have h0' : (0 == i) = false := by simpa using fun e => h0 e.symm
     have h1' : (1 == i) = false := by simpa using fun e => h1 e.symm
     simp [h0, h1, h0', h1', DevS.new, hi']
theorem read_still {d : DevS} {i : Nat} (ho : d.off = false) (hr : d.row = []) (hi : i < d.sec.length) : d.read (i : Int) = (d.sec[i], 0) := by
 unfold DevS.read
 rw [DevS.isIn_iff.2 ⟨by omega, by omega⟩, ho, if_pos rfl, if_neg (by simp), Int.toNat_natCast]
 have : d.latest i = d.sec[i] := by
   unfold DevS.latest DevS.waits
   rw [hr]
   simp [waitsOf, hi]
 rw [this]
theorem fmt_read {n : Nat} {limit : Int} (hn : 2 ≤ n) : (fmtDev n limit).read 0 = ((fmt0 limit).bytes, 0) ∧ (fmtDev n limit).read 1 = ((fmt1 limit).bytes, 0) := by
 have l : (fmtDev n limit).sec.length = n := by simp [fmtDev]
 have h0 := read_still (d := fmtDev n limit) (i := 0) rfl rfl (by omega)
 have h1 := read_still (d := fmtDev n limit) (i := 1) rfl rfl (by omega)
 refine ⟨h0.trans ?_, h1.trans ?_⟩
 · simp [fmtDev]
 · simp [fmtDev]
theorem fmt_newest {limit : Int} (h : 4 ≤ limit ∧ limit ≤ 512) : nwI (fmt0 limit).bytes (fmt1 limit).bytes = true := by
 obtain ⟨a0, b0⟩ := unmV_of (fmt0_ok h)
 obtain ⟨a1, b1⟩ := unmV_of (fmt1_ok h)
 have t0 : unmT (fmt0 limit).bytes = 0 := congrArg MetaV.t b0
 have t1 : unmT (fmt1 limit).bytes = 1 := congrArg MetaV.t b1
 unfold nwI
 rw [a1, t0, t1]
 simp
def fmtPg (limit : Int) : PgS := ⟨fmt1 limit, fmt0 limit, true, none, []⟩
theorem fmt_open {n : Nat} {limit : Int} (h : 4 ≤ limit ∧ limit ≤ 512) (hn : 4 * limit ≤ (n : Int)) : openR (fmtDev n limit) = 0 ∧ openP (fmtDev n limit) = fmtPg limit := by
 obtain ⟨r0, r1⟩ := fmt_read (n := n) (limit := limit) (by omega)
 obtain ⟨a0, b0⟩ := unmV_of (fmt0_ok h)
 obtain ⟨a1, b1⟩ := unmV_of (fmt1_ok h)
 have hw := fmt_newest h
 have hs : nwS (fmt0 limit).bytes (fmt1 limit).bytes = (fmt1 limit).bytes := by unfold nwS; rw [hw]; rfl
 have l : (fmtDev n limit).sec.length = n := by simp [fmtDev]
 have hl : unmL (fmt1 limit).bytes = limit := congrArg MetaV.l b1
 constructor
 · unfold openR
   rw [r0, r1, if_neg (by simp), if_neg (by simp), hs, if_pos ⟨a1, by rw [hl, l]; omega⟩]
 · unfold openP restS fmtPg
   rw [r0, r1, hs, hw, b1]
   simp only [if_true]
   rw [a0, b0]
end Go.Proofs.YtjbcbnemdhbhbaaGreatDoor
namespace Go.Proofs.YtjbcbnemdhbhbaaGreatDoor
open Go.RowKit
open Go.PlainAid
set_option maxRecDepth 100000
set_option linter.unusedVariables false
set_option linter.unusedSimpArgs false
def SaysM (m : MetaV) (w : World) (e : Ending) (w' : World) : Prop := e = .returned (.agg #[.int .i64 m.t, .int .i64 m.r, .int .i64 m.f, .int .i64 m.p, .int .i64 m.l]) ∧ Below w.heap.size w w'
theorem pmeta_any {w : World} {q : Nat} {T : List Nat} {g : Nat} {P : PgS} (h : Pg w q T g P) :
   Calls Tryz.prog 55 #[.pointer (some ⟨q, 0, none⟩)] w (SaysM P.m w) := by
 obtain ⟨sl, lg, h⟩ := h
 obtain ⟨c0, c1, c2, c3, c4, c5, c6, c7, c8, c9, c10, c11, c12, c13⟩ := h.cells.fourteen
 have hlt := h.cells.lt
 clear h
 go_enter Tryz.func55, Tryz.ntmps55
 go_wp2_with fail
 exact bodyPost_ret (v := .agg #[.int .i64 P.m.t, .int .i64 P.m.r, .int .i64 P.m.f, .int .i64 P.m.p, .int .i64 P.m.l]) (by simp [results, Tryz.results55, go_sem]) rfl ⟨rfl, (Below.refl _ w).alloc (Nat.le_refl _) _⟩
theorem format_to {g : Nat} {S : List Nat} {D D' : DevS} {w : World} (hd : Dev w g S D) (limit : Int) (hr : RowAt w) (hS : 0 ∉ S) (hb : D.steps ≤ 999999990) (h : 4 ≤ limit ∧ limit ≤ 512 ∧ 4 * limit ≤ (D.sec.length : Int)) (r : Int) (hf : formatD D limit = (D', r)) :
   Calls Tryz.prog 98 #[ptr g, .int .i64 limit] w (DevPost g S D' (.int .i64 r) w) := by
 have h1 := format_ok hd limit hr hS hb h
 rw [hf] at h1
 exact h1
def OpensPost (g : Nat) (P : PgS) (w : World) (e : Ending) (w' : World) : Prop :=
 ∃ q, w.heap.size ≤ q ∧ e = .returned (.tuple #[.pointer (some ⟨q, 0, none⟩), .int .i64 0]) ∧ Pg w' q [q] g P ∧ Below w.heap.size w w'
theorem open_to {g : Nat} {S : List Nat} {D : DevS} {P : PgS} {w : World} (hd : Dev w g S D) (hr : RowAt w) (hb : D.steps ≤ 1000000000) (h0 : openR D = 0) (hP : openP D = P) :
   Calls Tryz.prog 99 #[ptr g] w (OpensPost g P w) := by
 refine (open_any hd hr hb).mono ?_
 rintro e w' ⟨hb, ⟨h1, _⟩ | ⟨_, q, h2, h3, h4⟩⟩
 · exact absurd h0 h1
 · exact ⟨q, h2, h3, by rw [← hP]; exact h4, hb⟩
structure Made (w w' : World) (g q : Nat) (S T : List Nat) (D : DevS) (P : PgS) : Prop where
 dev : Dev w' g S D
 pg : Pg w' q T g P
 bel : Below w.heap.size w w'
 newS : ∀ b ∈ S, w.heap.size ≤ b
 newT : ∀ b ∈ T, w.heap.size ≤ b
 apart : ∀ b ∈ T, b ∉ S
theorem post_new {g : Nat} {S : List Nat} {D' : DevS} {w0 w w' : World} (hb : Below w0.heap.size w0 w) (hS : ∀ b ∈ S, w0.heap.size ≤ b) (h : ∃ S', Dev w' g S' D' ∧ Off S w w' ∧ Fresh w S S') :
   ∃ S', Dev w' g S' D' ∧ Below w0.heap.size w0 w' ∧ ∀ b ∈ S', w0.heap.size ≤ b := by
 obtain ⟨S', h1, h2, h3⟩ := h
 exact ⟨S', h1, hb.trans (h2.below hb.size hS), fun b hb' => (h3 b hb').elim (hS b) (fun h => Nat.le_trans hb.size h)⟩
theorem row_not {w : World} (h : RowAt w) {S : List Nat} (hS : ∀ b ∈ S, w.heap.size ≤ b) : 0 ∉ S := fun hx => by
 have := hS _ hx
 have := h.lt
 omega
end Go.Proofs.YtjbcbnemdhbhbaaGreatDoor
namespace Go.Proofs.YtjbcbnemdhbhbaaGreatDoor
open Go.RowKit
set_option maxRecDepth 100000
set_option linter.unusedVariables false
set_option linter.unusedSimpArgs false
structure Db (w : World) (b q r f g : Nat) (P : PgS) (s : St) : Prop where
 top : Bk w b 99 #[.pointer (some ⟨q, 0, none⟩), .pointer (some ⟨r, 0, none⟩), .pointer (some ⟨f, 0, none⟩), .slice none 0 0, .pointer none]
 pg : Pg w q [q] g P
 rd : Bk w r 195 s.cells
 fr : ∃ fcs, Bk w f 165 fcs ∧ fcs[0]? = some (.slice none 0 0)
theorem Db.off {w w' : World} {b q r f g : Nat} {P : PgS} {s : St} {U : List Nat} (h : Db w b q r f g P s) (ho : Off U w w') (hU : ∀ x ∈ [b, q, r, f], x ∉ U) : Db w' b q r f g P s := by
 obtain ⟨fcs, h1, h2⟩ := h.fr
 exact ⟨ho.bk h.top (hU b (by simp)), h.pg.off ho (fun x hx => by rw [List.mem_singleton] at hx; subst hx; exact hU x (by simp)), ho.bk h.rd (hU r (by simp)), fcs, ho.bk h1 (hU f (by simp)), h2⟩
theorem Db.below {w w' : World} {b q r f g : Nat} {P : PgS} {s : St} (h : Db w b q r f g P s) (hb : Below w.heap.size w w') : Db w' b q r f g P s := h.off (Off.of_below hb []) (by simp)
theorem Db.pgCell {w : World} {b q r f g : Nat} {P : PgS} {s : St} (h : Db w b q r f g P s) : ∃ cs, Bk w q 188 cs := by
 obtain ⟨sl, lg, hp⟩ := h.pg
 exact ⟨_, hp.cells⟩
theorem Db.ner {w : World} {b q r f g : Nat} {P : PgS} {s : St} (h : Db w b q r f g P s) : b ≠ r ∧ q ≠ r ∧ f ≠ r := by
 obtain ⟨cs, hp⟩ := h.pgCell
 obtain ⟨fcs, h1, -⟩ := h.fr
 exact ⟨h.top.ne h.rd (by decide), hp.ne h.rd (by decide), h1.ne h.rd (by decide)⟩
theorem Db.readers {w w' : World} {b q r f g : Nat} {P : PgS} {s s' : St} (h : Db w b q r f g P s) (ho : Off [r] w w') (hr : Bk w' r 195 s'.cells) : Db w' b q r f g P s' := by
 obtain ⟨n1, n2, n3⟩ := h.ner
 obtain ⟨fcs, h1, h2⟩ := h.fr
 exact ⟨ho.bk h.top (by simpa using n1), h.pg.off ho (fun x hx => by rw [List.mem_singleton] at hx; subst hx; simpa using n2), hr, fcs, ho.bk h1 (by simpa using n3), h2⟩
theorem mfld0 (t r f p l : Int) (W : World) : Sem.run Tryz.prog (Instr.field 40 (.agg #[.int .i64 t, .int .i64 r, .int .i64 f, .int .i64 p, .int .i64 l]) 0) W = .ok (.int .i64 t) W := by
 have h := Tryz.underlying40
 simp [Instr.field, run_underlying h, part, asAgg, go_sem]
theorem mfld2 (t r f p l : Int) (W : World) : Sem.run Tryz.prog (Instr.field 40 (.agg #[.int .i64 t, .int .i64 r, .int .i64 f, .int .i64 p, .int .i64 l]) 2) W = .ok (.int .i64 f) W := by
 have h := Tryz.underlying40
 simp [Instr.field, run_underlying h, part, asAgg, go_sem]
theorem Bk.setFive {w : World} {q : Nat} {t : TypeId} {v0 v1 v2 v3 v4 : Value} (h : Bk w q t #[v0, v1, v2, v3, v4]) (a0 a1 a2 a3 a4 : Value) :
   (w.setCell ⟨q, 0, none⟩ a0).cell? ⟨q, 0, none⟩ = some a0 ∧ ((w.setCell ⟨q, 0, none⟩ a0).setCell ⟨q, 1, none⟩ a1).cell? ⟨q, 1, none⟩ = some a1 ∧ (((w.setCell ⟨q, 0, none⟩ a0).setCell ⟨q, 1, none⟩ a1).setCell ⟨q, 2, none⟩ a2).cell? ⟨q, 2, none⟩ = some a2 ∧
   ((((w.setCell ⟨q, 0, none⟩ a0).setCell ⟨q, 1, none⟩ a1).setCell ⟨q, 2, none⟩ a2).setCell ⟨q, 3, none⟩ a3).cell? ⟨q, 3, none⟩ = some a3 ∧ (((((w.setCell ⟨q, 0, none⟩ a0).setCell ⟨q, 1, none⟩ a1).setCell ⟨q, 2, none⟩ a2).setCell ⟨q, 3, none⟩ a3).setCell ⟨q, 4, none⟩ a4).cell? ⟨q, 4, none⟩ = some a4 := by
 have h0 := h.put 0 a0
 have h1 := h0.put 1 a1
 have h2 := h1.put 2 a2
 have h3 := h2.put 3 a3
 have h4 := h3.put 4 a4
 exact ⟨h0.cell 0, h1.cell 1, h2.cell 2, h3.cell 3, h4.cell 4⟩
def SnapAt (w : World) (s b : Nat) (i : Int) (m : MetaV) (over : Bool) : Prop := Bk w s 115 #[.pointer (some ⟨b, 0, none⟩), .int .i64 i, .int .i64 m.t, .int .i64 m.r, .int .i64 m.f, .int .i64 m.p, .int .i64 m.l, .slice none 0 0, .bool over]
theorem smay_ok {w : World} {sp b : Nat} {i : Int} {m : MetaV} (h : SnapAt w sp b i m false) : Calls Tryz.prog 57 #[.pointer (some ⟨sp, 0, none⟩)] w (fun e w' => e = .returned (.int .i64 0) ∧ w = w') := by
 have c8 := Bk.cell h 8
 have ls := Bk.lt h
 clear h
 go_enter Tryz.func57, Tryz.ntmps57
 go_wp2_with fail
 go_ret
 exact ⟨rfl, rfl⟩
end Go.Proofs.YtjbcbnemdhbhbaaGreatDoor
namespace Go.Proofs.YtjbcbnemdhbhbaaGreatDoor
open Go.RowKit
open Go.PlainAid
set_option maxRecDepth 100000
set_option linter.unusedVariables false
set_option linter.unusedSimpArgs false
theorem unpack_is {s : ByteArray} {k n t : Int} {b : ByteArray} (h : IsPage s k n t b) (w : World) (hr : RowAt w) : Calls Tryz.prog 212 #[.string s] w (fun e w' => e = .returned (.tuple #[.agg #[.int .i64 k, .int .i64 n, .int .i64 t, .string b], .int .i64 0]) ∧ Below w.heap.size w w') := by
 have h1 := unpack_any s w hr
 obtain ⟨e1, e2, e3, e4, e5⟩ := unp_of h
 unfold UnpackPost at h1
 rw [e1, e2, e3, e4, e5] at h1
 exact h1
theorem Bk.setFour {w : World} {q : Nat} {t : TypeId} {v0 v1 v2 v3 : Value} (h : Bk w q t #[v0, v1, v2, v3]) (a0 a1 a2 a3 : Value) :
   (w.setCell ⟨q, 0, none⟩ a0).cell? ⟨q, 0, none⟩ = some a0 ∧ ((w.setCell ⟨q, 0, none⟩ a0).setCell ⟨q, 1, none⟩ a1).cell? ⟨q, 1, none⟩ = some a1 ∧ (((w.setCell ⟨q, 0, none⟩ a0).setCell ⟨q, 1, none⟩ a1).setCell ⟨q, 2, none⟩ a2).cell? ⟨q, 2, none⟩ = some a2 ∧
   ((((w.setCell ⟨q, 0, none⟩ a0).setCell ⟨q, 1, none⟩ a1).setCell ⟨q, 2, none⟩ a2).setCell ⟨q, 3, none⟩ a3).cell? ⟨q, 3, none⟩ = some a3 := by
 have h0 := h.put 0 a0
 have h1 := h0.put 1 a1
 have h2 := h1.put 2 a2
 have h3 := h2.put 3 a3
 exact ⟨h0.cell 0, h1.cell 1, h2.cell 2, h3.cell 3⟩
def PReadPost (k no t : Int) (b : ByteArray) (w : World) (e : Ending) (w' : World) : Prop := e = .returned (.tuple #[.agg #[.int .i64 k, .int .i64 no, .int .i64 t, .string b], .int .i64 0]) ∧ Below w.heap.size w w'
set_option maxHeartbeats 16000000 in
theorem pread_any {w : World} {q g : Nat} {T S : List Nat} {P : PgS} {D : DevS} (hp : Pg w q T g P) (hd : Dev w g S D) (hr : RowAt w) (hb : D.steps ≤ 1000000000) (hoff : D.off = false) (no : Nat) (h1 : 1 ≤ no) (h2 : (no : Int) < P.m.l) {k t : Int} {b : ByteArray} (hx : D.Page no k t b) :
   Calls Tryz.prog 156 #[.pointer (some ⟨q, 0, none⟩), .int .i64 no] w (PReadPost k no t b w) := by
 obtain ⟨sl, lg, hpa⟩ := hp
 have c0 : w.cell? ⟨q, 0, none⟩ = some (.pointer (some ⟨g, 0, none⟩)) := hpa.cells.cell 0
 have c5 : w.cell? ⟨q, 5, none⟩ = some (.int .i64 P.m.l) := hpa.cells.cell 5
 have lq := hpa.cells.lt
 obtain ⟨s0, e0⟩ : ∃ s, s = D.latest (4 * no) := ⟨_, rfl⟩
 obtain ⟨s1, e1⟩ : ∃ s, s = D.latest (4 * no + 1) := ⟨_, rfl⟩
 obtain ⟨s2, e2⟩ : ∃ s, s = D.latest (4 * no + 2) := ⟨_, rfl⟩
 obtain ⟨s3, e3⟩ : ∃ s, s = D.latest (4 * no + 3) := ⟨_, rfl⟩
 have hf := hx.fits
 have hok := hd.ok
 have hm := hok.most
 have z0 : s0.size = 128 := by rw [e0]; exact DevS.latest_size hok (by omega)
 have z1 : s1.size = 128 := by rw [e1]; exact DevS.latest_size hok (by omega)
 have z2 : s2.size = 128 := by rw [e2]; exact DevS.latest_size hok (by omega)
 have z3 : s3.size = 128 := by rw [e3]; exact DevS.latest_size hok (by omega)
 have HR : ∀ (j : Nat) (s : ByteArray), j < 4 → s = D.latest (4 * no + j) → Hid (∀ (W : World), Below w.heap.size w W → ∀ i : Int, i = 4 * (no : Int) + j → Calls Tryz.prog 152 #[ptr g, .int .i64 i] W (ReadPost s 0 W)) := fun j s hj hs => Lib.hid fun W hW i hi => by
   subst hs hi
   have := dread_from (hd.below hW) ((4 * no + j : Nat) : Int) (D.latest (4 * no + j)) 0 hb (DevS.read_on hoff (by omega))
   rw [show ((4 * no + j : Nat) : Int) = 4 * (no : Int) + j by omega] at this
   exact this
 have HR0 := HR 0 s0 (by omega) e0
 have HR1 := HR 1 s1 (by omega) e1
 have HR2 := HR 2 s2 (by omega) e2
 have HR3 := HR 3 s3 (by omega) e3
 clear HR
 have HU := Lib.hid (show IsPage ⟨(s0.data.toList ++ (s1.data.toList ++ (s2.data.toList ++ s3.data.toList))).toArray⟩ k no t b by rw [e0, e1, e2, e3, ← List.append_assoc, ← List.append_assoc]; exact hx.bytes)
 have HRW := Lib.hid hr
 have y1 : decide ((no : Int) < 1) = false := decide_eq_false (by omega)
 have y2 : decide (P.m.l ≤ (no : Int)) = false := decide_eq_false (by omega)
 have hn : no < 512 := by omega
 have HZ := Lib.hid (show s0.size = 128 ∧ s1.size = 128 ∧ s2.size = 128 ∧ s3.size = 128 from ⟨z0, z1, z2, z3⟩)
 have y3 : ((no : Int) != (no : Int)) = false := by simp
 clear e0 e1 e2 e3 hx hd hpa z0 z1 z2 z3 hok hm hf hoff hb hr h2
 go_enter Tryz.func156, Tryz.ntmps156
 go_wp2_with fail
 refine wp_loop_rounds 5 ?_
 rw [rounds_succ]
 go_wp2_with fail
 refine (HR0.out _ (((Below.refl _ w).alloc (Nat.le_refl _) _).alloc (by simp) _) _ (by omega)).mono ?_
 rintro e w1 ⟨rfl, rfl⟩
 have HS0 := Lib.hid (show SB (w.heap.size + 1) (w.heap.size + 1) [] ((w.alloc (.cells #[.int .i64 0, .int .i64 0, .int .i64 0, .string ⟨#[]⟩] 126)).alloc (.cells #[.pointer none, .slice none 0 0] 300)) from by have h := sb_new (w.alloc (.cells #[.int .i64 0, .int .i64 0, .int .i64 0, .string ⟨#[]⟩] 126)); rw [show (w.alloc (.cells #[.int .i64 0, .int .i64 0, .int .i64 0, .string ⟨#[]⟩] 126)).heap.size = w.heap.size + 1 by simp] at h; exact h)
 have HB0 := Lib.hid (show Below w.heap.size w ((w.alloc (.cells #[.int .i64 0, .int .i64 0, .int .i64 0, .string ⟨#[]⟩] 126)).alloc (.cells #[.pointer none, .slice none 0 0] 300)) from ((Below.refl _ w).alloc (Nat.le_refl _) _).alloc (by simp) _)
 have HP0 := Lib.hid (show Bk ((w.alloc (.cells #[.int .i64 0, .int .i64 0, .int .i64 0, .string ⟨#[]⟩] 126)).alloc (.cells #[.pointer none, .slice none 0 0] 300)) w.heap.size 126 #[.int .i64 0, .int .i64 0, .int .i64 0, .string ⟨#[]⟩] from (Bk.new w _ _).alloc _)
 go_wp2_with fail
 refine (sb_write _ _ _ _ _ HS0.out (by have := HZ.out; simp only [List.length_append, List.length_nil, len_size]; omega) (by have := HB0.out.size; simp)).mono ?_
 rintro e v0 ⟨rfl, hs, hb⟩
 have HS1 := Lib.hid hs
 have HB1 := Lib.hid (HB0.out.trans (hb.mono (by simp)))
 have c0_0 : v0.cell? ⟨q, 0, none⟩ = some (.pointer (some ⟨g, 0, none⟩)) := (HB1.out.cell (p := ⟨q, 0, none⟩) lq).trans c0
 have lq_0 : q < v0.heap.size := Nat.lt_of_lt_of_le lq HB1.out.size
 have HL1 := Lib.hid (show w.heap.size + 1 < v0.heap.size from by have h9 := hb.size; simp at h9; omega)
 have HP1 := Lib.hid (show Bk v0 w.heap.size 126 #[.int .i64 0, .int .i64 0, .int .i64 0, .string ⟨#[]⟩] from (hb.block w.heap.size (by simp)).trans HP0.out)
 clear hs hb
 go_wp2_with fail
 rw [rounds_succ]
 go_wp2_with fail
 refine (HR1.out _ HB1.out (4 * (no : Int) + 1) (by omega)).mono ?_
 rintro e w3 ⟨rfl, rfl⟩
 go_wp2_with fail
 refine (sb_write _ _ _ _ _ HS1.out (by have := HZ.out; simp only [List.length_append, List.length_nil, len_size]; omega) (by have := HB1.out.size; have := HL1.out; omega)).mono ?_
 rintro e v1 ⟨rfl, hs, hb⟩
 have HS2 := Lib.hid hs
 have HB2 := Lib.hid (HB1.out.trans (hb.mono (by simp)))
 have c0_1 : v1.cell? ⟨q, 0, none⟩ = some (.pointer (some ⟨g, 0, none⟩)) := (HB2.out.cell (p := ⟨q, 0, none⟩) lq).trans c0
 have lq_1 : q < v1.heap.size := Nat.lt_of_lt_of_le lq HB2.out.size
 have HL2 := Lib.hid (show w.heap.size + 1 < v1.heap.size from by have h9 := hb.size; have := HL1.out; omega)
 have HP2 := Lib.hid (show Bk v1 w.heap.size 126 #[.int .i64 0, .int .i64 0, .int .i64 0, .string ⟨#[]⟩] from (hb.block w.heap.size (by simp)).trans HP1.out)
 clear hs hb
 go_wp2_with fail
 rw [rounds_succ]
 go_wp2_with fail
 refine (HR2.out _ HB2.out (4 * (no : Int) + 2) (by omega)).mono ?_
 rintro e w5 ⟨rfl, rfl⟩
 go_wp2_with fail
 refine (sb_write _ _ _ _ _ HS2.out (by have := HZ.out; simp only [List.length_append, List.length_nil, len_size]; omega) (by have := HB2.out.size; have := HL2.out; omega)).mono ?_
 rintro e v2 ⟨rfl, hs, hb⟩
 have HS3 := Lib.hid hs
 have HB3 := Lib.hid (HB2.out.trans (hb.mono (by simp)))
 have c0_2 : v2.cell? ⟨q, 0, none⟩ = some (.pointer (some ⟨g, 0, none⟩)) := (HB3.out.cell (p := ⟨q, 0, none⟩) lq).trans c0
 have lq_2 : q < v2.heap.size := Nat.lt_of_lt_of_le lq HB3.out.size
 have HL3 := Lib.hid (show w.heap.size + 1 < v2.heap.size from by have h9 := hb.size; have := HL2.out; omega)
 have HP3 := Lib.hid (show Bk v2 w.heap.size 126 #[.int .i64 0, .int .i64 0, .int .i64 0, .string ⟨#[]⟩] from (hb.block w.heap.size (by simp)).trans HP2.out)
 clear hs hb
 go_wp2_with fail
 rw [rounds_succ]
 go_wp2_with fail
 refine (HR3.out _ HB3.out (4 * (no : Int) + 3) (by omega)).mono ?_
 rintro e w7 ⟨rfl, rfl⟩
 go_wp2_with fail
 refine (sb_write _ _ _ _ _ HS3.out (by have := HZ.out; simp only [List.length_append, List.length_nil, len_size]; omega) (by have := HB3.out.size; have := HL3.out; omega)).mono ?_
 rintro e v3 ⟨rfl, hs, hb⟩
 have HS4 := Lib.hid hs
 have HB4 := Lib.hid (HB3.out.trans (hb.mono (by simp)))
 have c0_3 : v3.cell? ⟨q, 0, none⟩ = some (.pointer (some ⟨g, 0, none⟩)) := (HB4.out.cell (p := ⟨q, 0, none⟩) lq).trans c0
 have lq_3 : q < v3.heap.size := Nat.lt_of_lt_of_le lq HB4.out.size
 have HL4 := Lib.hid (show w.heap.size + 1 < v3.heap.size from by have h9 := hb.size; have := HL3.out; omega)
 have HP4 := Lib.hid (show Bk v3 w.heap.size 126 #[.int .i64 0, .int .i64 0, .int .i64 0, .string ⟨#[]⟩] from (hb.block w.heap.size (by simp)).trans HP3.out)
 clear hs hb
 go_wp2_with fail
 rw [rounds_succ]
 go_wp2_with fail
 refine (sb_string _ _ _ _ HS4.out (by have := HL4.out; simp; omega)).mono ?_
 rintro e w8 ⟨rfl, hb⟩
 have HB5 := Lib.hid (HB4.out.trans (hb.mono (by simp)))
 have HP5 := Lib.hid (show Bk w8 w.heap.size 126 #[.int .i64 0, .int .i64 0, .int .i64 0, .string ⟨#[]⟩] from (hb.block w.heap.size (by simp)).trans HP4.out)
 clear hb
 go_wp2_with fail
 (with_reducible refine (unpack_is HU.out _ (HRW.out.below HB5.out)).mono ?_)
 rintro e w9 ⟨rfl, hb⟩
 have HB6 := Lib.hid (HB5.out.trans (hb.mono HB5.out.size))
 have HP6 := Lib.hid (bk_below HP5.out hb)
 clear hb
 have lp := HP6.out.lt
 obtain ⟨x0, x1, x2, x3⟩ := HP6.out.four
 have f0 := HP6.out.frozen 0
 have f1 := HP6.out.frozen 1
 have f2 := HP6.out.frozen 2
 have f3 := HP6.out.frozen 3
 go_wp2_with fail
 obtain ⟨u0, u1, u2, u3⟩ := HP6.out.setFour (.int .i64 k) (.int .i64 no) (.int .i64 t) (.string b)
 refine bodyPost_ret (v := .tuple #[.agg #[.int .i64 k, .int .i64 no, .int .i64 t, .string b], .int .i64 0]) (by simp [results, Tryz.results156, go_sem, lp, u0, u1, u2, u3]) rfl ⟨rfl, ?_⟩
 have ho : Off [w.heap.size] w9 ((((w9.setCell ⟨w.heap.size, 0, none⟩ (.int .i64 k)).setCell ⟨w.heap.size, 1, none⟩ (.int .i64 no)).setCell ⟨w.heap.size, 2, none⟩ (.int .i64 t)).setCell ⟨w.heap.size, 3, none⟩ (.string b)) :=
   ((((Off.refl _ _).setCell (.inl (by simp)) _).setCell (.inl (by simp)) _).setCell (.inl (by simp)) _).setCell (.inl (by simp)) _
 exact (((Off.of_below HB6.out []).then ho (fun x hx => by rw [List.mem_singleton] at hx; subst hx; exact .inr (Nat.le_refl _))).alloc _).below (Nat.le_refl _) (by simp)
def PgPost (g q : Nat) (S T : List Nat) (D' : DevS) (P' : PgS) (r : Int) (w : World) (e : Ending) (w' : World) : Prop :=
 e = .returned (.int .i64 r) ∧ ∃ S' T', Dev w' g S' D' ∧ Pg w' q T' g P' ∧ (∀ b ∈ T', b ∉ S') ∧ Off (S ++ T) w w' ∧ Fresh w S S' ∧ Fresh w T T'
theorem Off.left {S T : List Nat} {w w' : World} (h : Off S w w') : Off (S ++ T) w w' := h.mono (fun x hx => .inl (List.mem_append.2 (.inl hx)))
theorem apart_fresh {w : World} {S S' T : List Nat} (h : ∀ b ∈ T, b ∉ S) (hf : Fresh w S S') (hT : ∀ b ∈ T, b < w.heap.size) : ∀ b ∈ T, b ∉ S' := fun b hb hs => by
 rcases hf b hs with h1 | h1
 · exact h b hb h1
 · have := hT b hb; omega
theorem seal_end {w w0 w2 w3 : World} {g q : Nat} {S S' T : List Nat} {D' : DevS} {P : PgS} {m : MetaV} (hp : Pg w q T g P) (hap : ∀ b ∈ T, b ∉ S) (hs : P.sealed = none) (hS : ∀ b ∈ S, b < w.heap.size)
   (h02 : Below w.heap.size w w2) (hbk : Bk w2 w.heap.size 40 m.cells) (hd : Dev w3 g S' D') (ho : Off S w2 w3) (hf : Fresh w2 S S') :
   ∃ S' T', Dev (w3.setCell ⟨q, 12, none⟩ (.pointer (some ⟨w.heap.size, 0, none⟩))) g S' D' ∧ Pg (w3.setCell ⟨q, 12, none⟩ (.pointer (some ⟨w.heap.size, 0, none⟩))) q T' g { P with sealed := some m } ∧ (∀ b ∈ T', b ∉ S') ∧
     Off (S ++ T) w (w3.setCell ⟨q, 12, none⟩ (.pointer (some ⟨w.heap.size, 0, none⟩))) ∧ Fresh w S S' ∧ Fresh w T T' := by
 have hT := hp.old
 obtain ⟨sl, lg, h⟩ := hp
 have hf' : Fresh w S S' := fun b hb => (hf b hb).imp_right (Nat.le_trans h02.size)
 have hapS := apart_fresh hap hf' hT
 have hqS : q ∉ S := hap q h.inT.1
 have hnS : w.heap.size ∉ S := fun hx => by have := hS _ hx; omega
 have hnS' : w.heap.size ∉ S' := fun hx => by
   rcases hf _ hx with h1 | h1
   · exact hnS h1
   · have := hbk.lt; omega
 have hO : Off S w w3 := (Off.of_below h02 S).trans ho
 have h3 : PgAt w3 q T g P sl lg := h.off hO hap
 have hO4 : Off [q] w3 (w3.setCell ⟨q, 12, none⟩ (.pointer (some ⟨w.heap.size, 0, none⟩))) := (Off.refl [q] w3).setCell (.inl (by simp)) _
 have hqlt := h.cells.lt
 refine ⟨S', w.heap.size :: T, hd.off hO4 (fun b hb hq => by simp at hq; subst hq; exact hapS _ h.inT.1 hb), ⟨.pointer (some ⟨w.heap.size, 0, none⟩), lg, ?_⟩, ?_, ?_, hf', ?_⟩
 · refine ⟨h3.cells.put 12 _, ⟨w.heap.size, by simp, rfl, hO4.bk (ho.bk hbk hnS) (by simp; omega)⟩, hO4.own h3.log (fun b hb => ?_), ⟨List.mem_cons_of_mem _ h.inT.1, fun b hb => List.mem_cons_of_mem _ (h.inT.2 b hb)⟩, ?_⟩
   · have hne := own_ne h3.log h3.cells (by decide)
     rw [hb] at hne
     simp
     exact fun e => hne (by rw [e])
   · intro b hb
     have hsz : w.heap.size < (w3.setCell ⟨q, 12, none⟩ (.pointer (some ⟨w.heap.size, 0, none⟩))).heap.size := by
       have := hbk.lt
       have := ho.size
       have := hO4.size
       omega
     rcases List.mem_cons.1 hb with rfl | hb
     · exact hsz
     · have := hT b hb; omega
 · intro b hb
   rcases List.mem_cons.1 hb with rfl | hb
   · exact hnS'
   · exact hapS b hb
 · exact (hO.left).then hO4 (fun x hx => .inl (by simp at hx; subst hx; exact List.mem_append.2 (.inr h.inT.1)))
 · intro b hb
   rcases List.mem_cons.1 hb with rfl | hb
   · exact .inr (Nat.le_refl _)
   · exact .inl hb
set_option maxHeartbeats 4000000 in
theorem seal_any {g q : Nat} {S T : List Nat} {D D' : DevS} {P : PgS} {w : World} (hd : Dev w g S D) (hp : Pg w q T g P) (hap : ∀ b ∈ T, b ∉ S) (hr : RowAt w) (hrS : 0 ∉ S) (hsd : P.sealed = none)
   (m : MetaV) (hm : m.ok = true) (hl : m.l = P.m.l) (ht : m.t = P.m.t + 1) (ht0 : 0 ≤ P.m.t) (hb : D.steps ≤ 1000000000) (r : Int) (hw : D.write (m.t % 2) m.bytes = (D', r)) :
   Calls Tryz.prog 53 #[.pointer (some ⟨q, 0, none⟩), .agg m.cells] w (PgPost g q S T D' (if r = 0 then { P with sealed := some m } else P) r w) := by
 have HD := Lib.hid hd
 have HP := Lib.hid hp
 have HAP := Lib.hid hap
 have HR := Lib.hid hr
 have HRS := Lib.hid hrS
 have HSD := Lib.hid hsd
 have HB := Lib.hid hb
 have HSZ : Hid (m.bytes.size ≤ maxLen) := show _ ≤ _ by rw [MetaV.size hm]; decide
 have HW := Lib.hid hw
 have htm : m.t ≤ 1099511627776 := (rightM_yes hm).2.1
 have HPK : Hid (∀ W, RowAt W → Calls Tryz.prog 117 #[.agg m.cells] W (fun e w' => e = .returned (.tuple #[.string m.bytes, .int .i64 0]) ∧ Below W.heap.size W w')) := fun W hW => by
   have h := packM_any m.t m.r m.f m.p m.l W hW
   have he : metaE m.t m.r m.f m.p m.l = 0 := metaE_right hm
   unfold PackMPost at h
   rw [he] at h
   exact h
 have HM : Hid (m = m) := rfl
 obtain ⟨sl, lg, hpa⟩ := hp
 have hsl : sl = .pointer none := by have := hpa.sld; rw [hsd] at this; exact this
 subst hsl
 have HPA := Lib.hid hpa
 have HQC : Hid (∀ W, Off S w W → W.cell? ⟨q, 0, none⟩ = some (ptr g) ∧ W.cell? ⟨q, 1, none⟩ = some (.int .i64 P.m.t) ∧ W.cell? ⟨q, 5, none⟩ = some (.int .i64 P.m.l) ∧ W.cell? ⟨q, 12, none⟩ = some (.pointer none) ∧ W.frozen? ⟨q, 12, none⟩ = false ∧ q < W.heap.size) := fun W hW => by
   have hk := hW.bk HPA.out.cells (HAP.out q HPA.out.inT.1)
   obtain ⟨c0, c1, c2, c3, c4, c5, c6, c7, c8, c9, c10, c11, c12, c13⟩ := hk.fourteen
   exact ⟨c0, c1, c5, c12, hk.frozen 12, hk.lt⟩
 have HBX : Hid (Bk (w.alloc (.cells m.cells 40)) w.heap.size 40 m.cells) := Bk.new _ _ _
 have HB0 : Hid (Below w.heap.size w (w.alloc (.cells m.cells 40))) := (Below.refl _ w).alloc (Nat.le_refl _) _
 have HEND : Hid (∀ w2 w3 S', Below w.heap.size w w2 → Bk w2 w.heap.size 40 m.cells → Dev w3 g S' D' → Off S w2 w3 → Fresh w2 S S' → _) := fun w2 w3 S' a1 a2 a3 a4 a5 => seal_end (w0 := w) HP.out HAP.out HSD.out HD.out.old a1 a2 a3 a4 a5
 have HBC : Hid (∀ W, Bk W w.heap.size 40 m.cells → W.cell? ⟨w.heap.size, 0, none⟩ = some (.int .i64 m.t) ∧ W.cell? ⟨w.heap.size, 1, none⟩ = some (.int .i64 m.r) ∧ W.cell? ⟨w.heap.size, 2, none⟩ = some (.int .i64 m.f) ∧ W.cell? ⟨w.heap.size, 3, none⟩ = some (.int .i64 m.p) ∧ W.cell? ⟨w.heap.size, 4, none⟩ = some (.int .i64 m.l)) := fun W h => h.five
 obtain ⟨mt, mr, mf, mp, ml⟩ := m
 unfold MetaV.cells at *
 simp only at *
 generalize MetaV.bytes ⟨mt, mr, mf, mp, ml⟩ = mb at *
 have q1 : IntKind.i64.wrap (mt - 1) = P.m.t := by rw [show mt - 1 = P.m.t by omega]; exact IntWalk.i64_in _ (by omega)
 have q2 : mt - 1 = P.m.t := by omega
 obtain ⟨par, hpar⟩ : ∃ par, par = mt % 2 := ⟨_, rfl⟩
 have q3 : mt % 2 = par := hpar.symm
 have q4 : mt.tmod 2 = par := by rw [Int.tmod_eq_emod_of_nonneg (by omega)]; exact q3
 have q5 : IntKind.i64.wrap par = par := IntWalk.i64_in _ (by omega)
 rw [q3] at HW
 have hll : ml = P.m.l := hl
 have HWP : Hid (D.write par mb = (D', r)) := HW
 subst hll
 have hpt : IntKind.i64.wrap P.m.t = P.m.t := IntWalk.i64_in _ (by omega)
 clear hd hap hr hrS hsd hm hl ht hb hw hpa HW hpar HM HSD
 by_cases hr0 : r = 0
 · subst hr0
   rw [if_pos rfl]
   go_enter Tryz.func53, Tryz.ntmps53
   obtain ⟨b0, b1, b2, b3, b4⟩ := HBC.out _ HBX.out
   go_wp2_with fail
   (go_at_call 117)
   refine (HPK.out _ (HR.out.below HB0.out)).mono ?_
   rintro e w2 ⟨rfl, hb2⟩
   have HB2 := Lib.hid (HB0.out.trans (hb2.mono HB0.out.size))
   have HX2 := Lib.hid (bk_below HBX.out hb2)
   have HD2 := Lib.hid (HD.out.below HB2.out)
   clear hb2 b0 b1 b2 b3 b4
   obtain ⟨b0, b1, b2, b3, b4⟩ := HBC.out _ HX2.out
   obtain ⟨c0, c1, c5, c12, f12, hql⟩ := HQC.out _ (Off.of_below HB2.out S)
   go_wp2_with fail
   go_quiet (fail)
   go_wp2_with fail
   go_quiet (fail)
   go_wp2_with fail
   have HKS : Hid (∀ W, Off S w2 W → W.cell? ⟨q, 0, none⟩ = some (ptr g) ∧ W.cell? ⟨w.heap.size, 0, none⟩ = some (.int .i64 mt)) := fun W hW => ⟨(HQC.out _ ((Off.of_below HB2.out S).trans hW)).1, (HBC.out _ (hW.bk HX2.out (fun hx => by have := HD.out.old _ hx; omega))).1⟩
   clear c0 c1 c5 c12 f12 b0 b1 b2 b3 b4
   go_region_held3 (fun W => W.cell? ⟨q, 0, none⟩ = some (ptr g) ∧ W.cell? ⟨w.heap.size, 0, none⟩ = some (.int .i64 mt))
     (first | exact HKS.out _ ((Off.refl S w2).drewN _) | exact HKS.out _ ((((Off.refl S w2).drewN _).drewN _).drew) | exact HKS.out _ (by assumption))
     ((go_at_call 118; refine (dwrite_from (HD2.out.drewN _) par mb D' _ HB.out HSZ.out HWP.out).mono ?_; rintro e w3 ⟨rfl, hp3⟩; obtain ⟨S3, hd3, ho3, hf3⟩ := hp3; have hoS := ((Off.refl S w2).drewN _).trans ho3))
   all_goals
     have HS3 := Lib.hid hd3
     have HO3 := Lib.hid hoS
     have HF3 : Hid (Fresh w2 S S3) := fun b hb => hf3 b hb
     obtain ⟨c0, c1, c5, c12, f12, hql⟩ := HQC.out _ ((Off.of_below HB2.out S).trans hoS)
     clear hd3 hoS hf3 ho3 c0 c1 c5
     go_wp2_with fail
     go_ret
     exact ⟨rfl, HEND.out w2 w3 S3 HB2.out HX2.out HS3.out HO3.out HF3.out⟩
 · rw [if_neg hr0]
   have qr : (r != 0) = true := by simpa using hr0
   clear hr0
   go_enter Tryz.func53, Tryz.ntmps53
   obtain ⟨b0, b1, b2, b3, b4⟩ := HBC.out _ HBX.out
   go_wp2_with fail
   (go_at_call 117)
   refine (HPK.out _ (HR.out.below HB0.out)).mono ?_
   rintro e w2 ⟨rfl, hb2⟩
   have HB2 := Lib.hid (HB0.out.trans (hb2.mono HB0.out.size))
   have HX2 := Lib.hid (bk_below HBX.out hb2)
   have HD2 := Lib.hid (HD.out.below HB2.out)
   clear hb2 b0 b1 b2 b3 b4
   obtain ⟨b0, b1, b2, b3, b4⟩ := HBC.out _ HX2.out
   obtain ⟨c0, c1, c5, c12, f12, hql⟩ := HQC.out _ (Off.of_below HB2.out S)
   go_wp2_with fail
   go_quiet (fail)
   go_wp2_with fail
   go_quiet (fail)
   go_wp2_with fail
   have HKS : Hid (∀ W, Off S w2 W → W.cell? ⟨q, 0, none⟩ = some (ptr g) ∧ W.cell? ⟨w.heap.size, 0, none⟩ = some (.int .i64 mt)) := fun W hW => ⟨(HQC.out _ ((Off.of_below HB2.out S).trans hW)).1, (HBC.out _ (hW.bk HX2.out (fun hx => by have := HD.out.old _ hx; omega))).1⟩
   clear c0 c1 c5 c12 f12 b0 b1 b2 b3 b4
   go_region_held3 (fun W => W.cell? ⟨q, 0, none⟩ = some (ptr g) ∧ W.cell? ⟨w.heap.size, 0, none⟩ = some (.int .i64 mt))
     (first | exact HKS.out _ ((Off.refl S w2).drewN _) | exact HKS.out _ ((((Off.refl S w2).drewN _).drewN _).drew) | exact HKS.out _ (by assumption))
     ((go_at_call 118; refine (dwrite_from (HD2.out.drewN _) par mb D' _ HB.out HSZ.out HWP.out).mono ?_; rintro e w3 ⟨rfl, hp3⟩; obtain ⟨S3, hd3, ho3, hf3⟩ := hp3; have hoS := ((Off.refl S w2).drewN _).trans ho3))
   all_goals
     have HS3 := Lib.hid hd3
     have HO3 := Lib.hid hoS
     have HF3 : Hid (Fresh w2 S S3) := fun b hb => hf3 b hb
     clear hd3 hoS hf3 ho3
     go_wp2_with fail
     go_ret
     refine ⟨rfl, S3, T, HS3.out, HP.out.off ((Off.of_below HB2.out S).trans HO3.out) HAP.out, apart_fresh HAP.out (fun b hb => (HF3.out b hb).imp_right (Nat.le_trans HB2.out.size)) HP.out.old, ((Off.of_below HB2.out S).trans HO3.out).left, fun b hb => (HF3.out b hb).imp_right (Nat.le_trans HB2.out.size), Fresh.refl _ _⟩
theorem twelve_cells (c0 c1 c2 c3 c4 c5 c6 c7 c8 c9 c10 c11 c12 c13 nt nr nf np nl vb mt mr mf mp ml vs : Value) :
   ((((((((((((#[c0, c1, c2, c3, c4, c5, c6, c7, c8, c9, c10, c11, c12, c13].setIfInBounds 6 nt).setIfInBounds 7 nr).setIfInBounds 8 nf).setIfInBounds 9 np).setIfInBounds 10 nl).setIfInBounds 11 vb).setIfInBounds 1 mt).setIfInBounds 2 mr).setIfInBounds 3 mf).setIfInBounds 4 mp).setIfInBounds 5 ml).setIfInBounds 12 vs) = #[c0, mt, mr, mf, mp, ml, nt, nr, nf, np, nl, vb, vs, c13] := by simp only [List.setIfInBounds_toArray, List.set_cons_succ, List.set_cons_zero]
theorem twelve_puts {w2 : World} {q : Nat} {t : TypeId} {c0 c1 c2 c3 c4 c5 c6 c7 c8 c9 c10 c11 c12 c13 : Value} (h : Bk w2 q t #[c0, c1, c2, c3, c4, c5, c6, c7, c8, c9, c10, c11, c12, c13]) (nt nr nf np nl vb mt mr mf mp ml vs : Value) :
   Bk ((((((((((((w2.setCell ⟨q, 6, none⟩ nt).setCell ⟨q, 7, none⟩ nr).setCell ⟨q, 8, none⟩ nf).setCell ⟨q, 9, none⟩ np).setCell ⟨q, 10, none⟩ nl).setCell ⟨q, 11, none⟩ vb).setCell ⟨q, 1, none⟩ mt).setCell ⟨q, 2, none⟩ mr).setCell ⟨q, 3, none⟩ mf).setCell ⟨q, 4, none⟩ mp).setCell ⟨q, 5, none⟩ ml).setCell ⟨q, 12, none⟩ vs) q t #[c0, mt, mr, mf, mp, ml, nt, nr, nf, np, nl, vb, vs, c13] := by
 have h1 := ((((((((((((h.put 6 nt).put 7 nr).put 8 nf).put 9 np).put 10 nl).put 11 vb).put 1 mt).put 2 mr).put 3 mf).put 4 mp).put 5 ml).put 12 vs)
 rw [twelve_cells] at h1
 exact h1
theorem twelve_off (w2 : World) (q : Nat) (nt nr nf np nl vb mt mr mf mp ml vs : Value) : Off [q] w2 ((((((((((((w2.setCell ⟨q, 6, none⟩ nt).setCell ⟨q, 7, none⟩ nr).setCell ⟨q, 8, none⟩ nf).setCell ⟨q, 9, none⟩ np).setCell ⟨q, 10, none⟩ nl).setCell ⟨q, 11, none⟩ vb).setCell ⟨q, 1, none⟩ mt).setCell ⟨q, 2, none⟩ mr).setCell ⟨q, 3, none⟩ mf).setCell ⟨q, 4, none⟩ mp).setCell ⟨q, 5, none⟩ ml).setCell ⟨q, 12, none⟩ vs) :=
 (((((((((((((Off.refl [q] w2).setCell (p := ⟨q, 6, none⟩) (.inl List.mem_cons_self) nt).setCell (p := ⟨q, 7, none⟩) (.inl List.mem_cons_self) nr).setCell (p := ⟨q, 8, none⟩) (.inl List.mem_cons_self) nf).setCell (p := ⟨q, 9, none⟩) (.inl List.mem_cons_self) np).setCell (p := ⟨q, 10, none⟩) (.inl List.mem_cons_self) nl).setCell (p := ⟨q, 11, none⟩) (.inl List.mem_cons_self) vb).setCell (p := ⟨q, 1, none⟩) (.inl List.mem_cons_self) mt).setCell (p := ⟨q, 2, none⟩) (.inl List.mem_cons_self) mr).setCell (p := ⟨q, 3, none⟩) (.inl List.mem_cons_self) mf).setCell (p := ⟨q, 4, none⟩) (.inl List.mem_cons_self) mp).setCell (p := ⟨q, 5, none⟩) (.inl List.mem_cons_self) ml).setCell (p := ⟨q, 12, none⟩) (.inl List.mem_cons_self) vs)
set_option maxHeartbeats 8000000 in
theorem done_any {g q : Nat} {S T : List Nat} {D D' : DevS} {P : PgS} {w : World} (hd : Dev w g S D) (hp : Pg w q T g P) (hap : ∀ b ∈ T, b ∉ S) (m : MetaV) (hsd : P.sealed = some m) (hb : D.steps ≤ 1000000000) (r : Int) (hw : D.sync = (D', r)) :
   Calls Tryz.prog 119 #[.pointer (some ⟨q, 0, none⟩)] w (PgPost g q S T D' (if r = 0 then ⟨m, P.m, true, none, P.log⟩ else P) r w) := by
 have HD := Lib.hid hd
 have HP := Lib.hid hp
 have HAP := Lib.hid hap
 have HB := Lib.hid hb
 have HW := Lib.hid hw
 obtain ⟨sl, lg, hpa⟩ := hp
 have hsl := hpa.sld
 rw [hsd] at hsl
 obtain ⟨b, hbT, hsl, hbk⟩ := hsl
 subst hsl
 have HPA := Lib.hid hpa
 have HBK := Lib.hid hbk
 have hbq : b ≠ q := Bk.ne hbk hpa.cells (by decide)
 have HBT := Lib.hid hbT
 have HQC : Hid (∀ W, Off S w W → Bk W q 188 (pgCells g P.m P.o P.both (.pointer (some ⟨b, 0, none⟩)) lg) ∧ Bk W b 40 m.cells) := fun W hW => ⟨hW.bk HPA.out.cells (HAP.out q HPA.out.inT.1), hW.bk HBK.out (HAP.out b HBT.out)⟩
 obtain ⟨P1, P2, P3, P4, P5⟩ := P
 obtain ⟨mt, mr, mf, mp, ml⟩ := m
 obtain ⟨nt, nr, nf, np, nl⟩ := P1
 obtain ⟨ot, or, of, op, ol⟩ := P2
 simp only at *
 obtain ⟨c0, c1, c2, c3, c4, c5, c6, c7, c8, c9, c10, c11, c12, c13⟩ := (HQC.out _ (Off.refl S w)).1.fourteen
 clear hd hap hsd hb hw hpa hbk hbT
 by_cases hr0 : r = 0
 · subst hr0
   rw [if_pos rfl]
   go_enter Tryz.func119, Tryz.ntmps119
   go_wp2_with fail
   (go_at_call 116)
   refine (dsync_from HD.out D' 0 HB.out HW.out).mono ?_
   rintro e w2 ⟨rfl, hp2⟩
   obtain ⟨S2, hd2, ho2, hf2⟩ := hp2
   have HS2 := Lib.hid hd2
   have HO2 := Lib.hid ho2
   have HF2 := Lib.hid hf2
   clear hd2 ho2 hf2 c0 c1 c2 c3 c4 c5 c6 c7 c8 c9 c10 c11 c12 c13
   have HQ2 := Lib.hid (HQC.out _ HO2.out).1
   have HB2 := Lib.hid (HQC.out _ HO2.out).2
   obtain ⟨c0, c1, c2, c3, c4, c5, c6, c7, c8, c9, c10, c11, c12, c13⟩ := HQ2.out.fourteen
   obtain ⟨d0, d1, d2, d3, d4⟩ := HB2.out.five
   have f1 := HQ2.out.frozen 1
   have f2 := HQ2.out.frozen 2
   have f3 := HQ2.out.frozen 3
   have f4 := HQ2.out.frozen 4
   have f5 := HQ2.out.frozen 5
   have f6 := HQ2.out.frozen 6
   have f7 := HQ2.out.frozen 7
   have f8 := HQ2.out.frozen 8
   have f9 := HQ2.out.frozen 9
   have f10 := HQ2.out.frozen 10
   have f11 := HQ2.out.frozen 11
   have f12 := HQ2.out.frozen 12
   go_wp2_with fail
   go_ret
   have hfin := twelve_puts HQ2.out (.int .i64 nt) (.int .i64 nr) (.int .i64 nf) (.int .i64 np) (.int .i64 nl) (.bool true) (.int .i64 mt) (.int .i64 mr) (.int .i64 mf) (.int .i64 mp) (.int .i64 ml) (.pointer none)
   have hof := twelve_off w2 q (.int .i64 nt) (.int .i64 nr) (.int .i64 nf) (.int .i64 np) (.int .i64 nl) (.bool true) (.int .i64 mt) (.int .i64 mr) (.int .i64 mf) (.int .i64 mp) (.int .i64 ml) (.pointer none)
   have hT := HP.out.old
   have hapS := apart_fresh HAP.out HF2.out hT
   have hqT := HPA.out.inT.1
   refine ⟨rfl, S2, T, HS2.out.off hof (fun x hx hq => by simp at hq; subst hq; exact hapS _ hqT hx), ⟨.pointer none, lg, hfin, rfl, hof.own (HO2.out.own HPA.out.log (fun x hx => HAP.out _ (HPA.out.inT.2 x hx))) (fun x hx => ?_), HPA.out.inT, fun x hx => ?_⟩, hapS, ?_, HF2.out, Fresh.refl _ _⟩
   · have hne := own_ne HPA.out.log HPA.out.cells (by decide)
     rw [hx] at hne
     simp
     exact fun e => hne (by rw [e])
   · have h1 := hT x hx
     have h2 := HO2.out.size
     have h3 := hof.size
     omega
   · exact HO2.out.left.then hof (fun x hx => .inl (by simp at hx; subst hx; exact List.mem_append.2 (.inr hqT)))
 · rw [if_neg hr0]
   have qr : (r != 0) = true := by simpa using hr0
   clear hr0
   go_enter Tryz.func119, Tryz.ntmps119
   go_wp2_with fail
   (go_at_call 116)
   refine (dsync_from HD.out D' r HB.out HW.out).mono ?_
   rintro e w2 ⟨rfl, hp2⟩
   obtain ⟨S2, hd2, ho2, hf2⟩ := hp2
   have HS2 := Lib.hid hd2
   have HO2 := Lib.hid ho2
   have HF2 := Lib.hid hf2
   clear hd2 ho2 hf2
   go_wp2_with fail
   go_ret
   exact ⟨rfl, S2, T, HS2.out, HP.out.off HO2.out HAP.out, apart_fresh HAP.out HF2.out HP.out.old, HO2.out.left, HF2.out, Fresh.refl _ _⟩
end Go.Proofs.YtjbcbnemdhbhbaaGreatDoor
