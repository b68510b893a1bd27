import Derived.Test.YtbiglfpikfjbpaaGreatDoorM3
namespace Go.Proofs.YtbiglfpikfjbpaaGreatDoor
open Go.RowKit
set_option maxRecDepth 100000
set_option linter.unusedVariables false
set_option linter.unusedSimpArgs false
set_option maxHeartbeats 40000000
theorem Bk.new2 (w : World) (o : Obj) (t : TypeId) (cs : Array Value) : Bk ((w.alloc o).alloc (.cells cs t)) (w.heap.size + 1) t cs:=by
 have h:=Bk.new (w.alloc o) t cs
 rwa [show (w.alloc o).heap.size = w.heap.size + 1 by simp] at h
theorem heap3_new (w : World) (a b o : Obj) : (((w.alloc a).alloc b).alloc o).heap[w.heap.size + 1 + 1]? = some o:=by
 have h:=heap_alloc2_new (w.alloc a) b o
 rwa [show (w.alloc a).heap.size = w.heap.size + 1 by simp] at h
theorem xlit (id op : Int) (c : Rw) : ∃ xs,Hid (#[.int .i64 id,.int .i64 op,.int .i64 0,.string ⟨#[]⟩,.bool false,.string ⟨#[]⟩,.string ⟨#[]⟩,.bool false,.string ⟨#[]⟩,.int .i64 0,.string ⟨#[]⟩,.int .i64 0,.int .i64 0,.int .i64 0,.int .i64 0,.bool false,.int .i64 0,.string ⟨#[]⟩,.string ⟨#[]⟩,.string ⟨#[]⟩,.slice none 0 0,.string ⟨#[]⟩,.slice none 0 0,.slice none 0 0,.slice none 0 0,.slice none 0 0,.string ⟨#[]⟩,.bool false,.slice none 0 0,.int .i64 0,.slice c.A c.n c.c] = xs) /\ xs = ({ MC.zero with id:=id,op:=op,controls:=c } : MC).cells:=⟨_,aa rfl,rfl⟩
theorem zlit : ∃ zs : Array Value,Hid (#[.int .i64 0,.int .i64 0,.int .i64 0,.string ⟨#[]⟩,.bool false,.string ⟨#[]⟩,.string ⟨#[]⟩,.bool false,.string ⟨#[]⟩,.int .i64 0,.string ⟨#[]⟩,.int .i64 0,.int .i64 0,.int .i64 0,.int .i64 0,.bool false,.int .i64 0,.string ⟨#[]⟩,.string ⟨#[]⟩,.string ⟨#[]⟩,.slice none 0 0,.string ⟨#[]⟩,.slice none 0 0,.slice none 0 0,.slice none 0 0,.slice none 0 0,.string ⟨#[]⟩,.bool false,.slice none 0 0,.int .i64 0,.slice none 0 0] = zs) /\ Hid (zs.size = 31):=⟨_,aa rfl,aa rfl⟩
theorem only_ways (m : MC) (xs : Array Value) (hx : xs = ({ MC.zero with id:=m.id,op:=m.op,controls:=m.controls } : MC).cells) (hk : aM m.op = true) (hn : m.op = 24 \/ aD m.op = false) :
  (m.op = 0 /\ m.sasl = true /\ aD m.op = false /\ Hid (((((((xs.setIfInBounds 3 (.string m.name)).setIfInBounds 2 (.int .i64 m.version)).setIfInBounds 4 (.bool true)).setIfInBounds 6 (.string m.kind)).setIfInBounds 7 (.bool m.has)).setIfInBounds 8 (.string m.value)) = m.only.cells)) ∨
  (m.op = 0 /\ m.sasl = false /\ aD m.op = false /\ Hid (((((xs.setIfInBounds 3 (.string m.name)).setIfInBounds 2 (.int .i64 m.version)).setIfInBounds 4 (.bool false)).setIfInBounds 5 (.string m.secret)) = m.only.cells)) ∨
  (m.op = 3 /\ aD m.op = false /\ Hid (((((((((((((((xs.setIfInBounds 3 (.string m.name)).setIfInBounds 11 (.int .i64 m.scope)).setIfInBounds 12 (.int .i64 m.deref)).setIfInBounds 13 (.int .i64 m.size)).setIfInBounds 14 (.int .i64 m.time)).setIfInBounds 15 (.bool m.types)).setIfInBounds 16 (.int .i64 m.filter.kind)).setIfInBounds 17 (.string m.filter.attr)).setIfInBounds 18 (.string m.filter.value)).setIfInBounds 19 (.string m.filter.first)).setIfInBounds 20 (.slice m.filter.any.A m.filter.any.n m.filter.any.c)).setIfInBounds 21 (.string m.filter.last)).setIfInBounds 22 (.slice m.filter.kids.A m.filter.kids.n m.filter.kids.c)).setIfInBounds 23 (.slice m.attrs.A m.attrs.n m.attrs.c)) = m.only.cells)) ∨
  (m.op = 4 /\ aD m.op = false /\ Hid (((xs.setIfInBounds 3 (.string m.name)).setIfInBounds 24 (.slice m.list.A m.list.n m.list.c)) = m.only.cells)) ∨
  (m.op = 8 /\ aD m.op = false /\ Hid (((xs.setIfInBounds 3 (.string m.name)).setIfInBounds 24 (.slice m.list.A m.list.n m.list.c)) = m.only.cells)) ∨
  (m.op = 6 /\ aD m.op = false /\ Hid (((xs.setIfInBounds 3 (.string m.name)).setIfInBounds 25 (.slice m.mods.A m.mods.n m.mods.c)) = m.only.cells)) ∨
  (m.op = 12 /\ aD m.op = false /\ Hid (((((xs.setIfInBounds 3 (.string m.name)).setIfInBounds 26 (.string m.rdn)).setIfInBounds 27 (.bool m.old)).setIfInBounds 28 (.slice m.dest.A m.dest.n m.dest.c)) = m.only.cells)) ∨
  (m.op = 14 /\ aD m.op = false /\ Hid ((((xs.setIfInBounds 3 (.string m.name)).setIfInBounds 6 (.string m.kind)).setIfInBounds 8 (.string m.value)) = m.only.cells)) ∨
  (m.op = 16 /\ aD m.op = false /\ Hid ((xs.setIfInBounds 29 (.int .i64 m.other)) = m.only.cells)) ∨
  (m.op = 23 /\ aD m.op = false /\ Hid ((((xs.setIfInBounds 6 (.string m.kind)).setIfInBounds 7 (.bool m.has)).setIfInBounds 8 (.string m.value)) = m.only.cells)) ∨
  (m.op = 2 /\ aD m.op = false /\ Hid (xs = m.only.cells)) ∨
  (m.op = 10 /\ aD m.op = false /\ Hid ((xs.setIfInBounds 3 (.string m.name)) = m.only.cells)) ∨
  (m.op = 24 /\ aD m.op = true /\ Hid (((((xs.setIfInBounds 3 (.string m.name)).setIfInBounds 9 (.int .i64 m.code)).setIfInBounds 10 (.string m.text)).setIfInBounds 6 (.string m.kind)) = m.only.cells)):=by
 have hc:=known_cases hk
 have S : ∀ {P : Prop},P -> Hid P:=fun h => aa h
 rcases hc with h | h | h | h | h | h | h | h | h | h | h | h | h | h | h | h | h | h | h
 ·cases hs : m.sasl
  ·right; left; refine ⟨h,rfl,by rw [h]; rfl,S ?_⟩; rw [hx]; unfold MC.only; simp [h,hs,MC.zero,MC.cells,FC.zero,Rw.none]
  ·left; refine ⟨h,rfl,by rw [h]; rfl,S ?_⟩; rw [hx]; unfold MC.only; simp [h,hs,MC.zero,MC.cells,FC.zero,Rw.none]
 ·iterate 10 right
  left; refine ⟨h,by rw [h]; rfl,S ?_⟩; rw [hx]; unfold MC.only; simp [h,MC.zero,MC.cells,FC.zero,Rw.none]
 ·iterate 2 right
  left; refine ⟨h,by rw [h]; rfl,S ?_⟩; rw [hx]; unfold MC.only; simp [h,MC.zero,MC.cells,FC.zero,Rw.none]
 ·iterate 3 right
  left; refine ⟨h,by rw [h]; rfl,S ?_⟩; rw [hx]; unfold MC.only; simp [h,MC.zero,MC.cells,FC.zero,Rw.none]
 ·iterate 5 right
  left; refine ⟨h,by rw [h]; rfl,S ?_⟩; rw [hx]; unfold MC.only; simp [h,MC.zero,MC.cells,FC.zero,Rw.none]
 ·iterate 4 right
  left; refine ⟨h,by rw [h]; rfl,S ?_⟩; rw [hx]; unfold MC.only; simp [h,MC.zero,MC.cells,FC.zero,Rw.none]
 ·iterate 11 right
  left; refine ⟨h,by rw [h]; rfl,S ?_⟩; rw [hx]; unfold MC.only; simp [h,MC.zero,MC.cells,FC.zero,Rw.none]
 ·iterate 6 right
  left; refine ⟨h,by rw [h]; rfl,S ?_⟩; rw [hx]; unfold MC.only; simp [h,MC.zero,MC.cells,FC.zero,Rw.none]
 ·iterate 7 right
  left; refine ⟨h,by rw [h]; rfl,S ?_⟩; rw [hx]; unfold MC.only; simp [h,MC.zero,MC.cells,FC.zero,Rw.none]
 ·iterate 8 right
  left; refine ⟨h,by rw [h]; rfl,S ?_⟩; rw [hx]; unfold MC.only; simp [h,MC.zero,MC.cells,FC.zero,Rw.none]
 ·iterate 9 right
  left; refine ⟨h,by rw [h]; rfl,S ?_⟩; rw [hx]; unfold MC.only; simp [h,MC.zero,MC.cells,FC.zero,Rw.none]
 ·iterate 12 right
  refine ⟨h,by rw [h]; rfl,S ?_⟩; rw [hx]; unfold MC.only; simp [h,MC.zero,MC.cells,FC.zero,Rw.none]
 all_goals (rw [h] at hn; rcases hn with hn | hn <;> exact absurd hn (by decide))
theorem ronly_known (m : MC) (w : World) (hk : aM m.op = true) (hn : m.op = 24 \/ aD m.op = false) : Calls Tryz.prog 36 #[.agg m.cells] w (dZ m.only w):=by
 have HS:=aa aT
 have HAN:=aa fun (W : World) => (show Calls _ _ _ _ (cU (aD m.op) W) from ec m.op W)
 obtain ⟨xs,HXS,hxs⟩:=xlit m.id m.op m.controls
 obtain ⟨zs,HZS,HZZ⟩:=zlit
 obtain ⟨cs,hcs⟩ : ∃ cs,cs = m.cells:=⟨_,rfl⟩
 have HZ : Hid (m.only.cells.all (·.oneCell') = true):=cF _
 have HSZ : Hid (m.only.cells.size = 31):=cJ _
 unfold dZ
 have hall : Hid (xs.all (·.oneCell') = true):=by rw [hxs]; exact cF _
 have HXZ : Hid (xs.size = 31):=by rw [hxs]; exact cJ _
 have c0 : cs[0]? = some (.int .i64 m.id):=by rw [hcs]; rfl
 have c1 : cs[1]? = some (.int .i64 m.op):=by rw [hcs]; rfl
 have c30 : cs[30]? = some (.slice m.controls.A m.controls.n m.controls.c):=by rw [hcs]; rfl
 have c2 : cs[2]? = some (.int .i64 m.version):=by rw [hcs]; rfl
 have c3 : cs[3]? = some (.string m.name):=by rw [hcs]; rfl
 have c4 : cs[4]? = some (.bool m.sasl):=by rw [hcs]; rfl
 have c5 : cs[5]? = some (.string m.secret):=by rw [hcs]; rfl
 have c6 : cs[6]? = some (.string m.kind):=by rw [hcs]; rfl
 have c7 : cs[7]? = some (.bool m.has):=by rw [hcs]; rfl
 have c8 : cs[8]? = some (.string m.value):=by rw [hcs]; rfl
 have c9 : cs[9]? = some (.int .i64 m.code):=by rw [hcs]; rfl
 have c10 : cs[10]? = some (.string m.text):=by rw [hcs]; rfl
 have c11 : cs[11]? = some (.int .i64 m.scope):=by rw [hcs]; rfl
 have c12 : cs[12]? = some (.int .i64 m.deref):=by rw [hcs]; rfl
 have c13 : cs[13]? = some (.int .i64 m.size):=by rw [hcs]; rfl
 have c14 : cs[14]? = some (.int .i64 m.time):=by rw [hcs]; rfl
 have c15 : cs[15]? = some (.bool m.types):=by rw [hcs]; rfl
 have c16 : cs[16]? = some (.int .i64 m.filter.kind):=by rw [hcs]; rfl
 have c17 : cs[17]? = some (.string m.filter.attr):=by rw [hcs]; rfl
 have c18 : cs[18]? = some (.string m.filter.value):=by rw [hcs]; rfl
 have c19 : cs[19]? = some (.string m.filter.first):=by rw [hcs]; rfl
 have c20 : cs[20]? = some (.slice m.filter.any.A m.filter.any.n m.filter.any.c):=by rw [hcs]; rfl
 have c21 : cs[21]? = some (.string m.filter.last):=by rw [hcs]; rfl
 have c22 : cs[22]? = some (.slice m.filter.kids.A m.filter.kids.n m.filter.kids.c):=by rw [hcs]; rfl
 have c23 : cs[23]? = some (.slice m.attrs.A m.attrs.n m.attrs.c):=by rw [hcs]; rfl
 have c24 : cs[24]? = some (.slice m.list.A m.list.n m.list.c):=by rw [hcs]; rfl
 have c25 : cs[25]? = some (.slice m.mods.A m.mods.n m.mods.c):=by rw [hcs]; rfl
 have c26 : cs[26]? = some (.string m.rdn):=by rw [hcs]; rfl
 have c27 : cs[27]? = some (.bool m.old):=by rw [hcs]; rfl
 have c28 : cs[28]? = some (.slice m.dest.A m.dest.n m.dest.c):=by rw [hcs]; rfl
 have c29 : cs[29]? = some (.int .i64 m.other):=by rw [hcs]; rfl
 have x2 : xs[2]? = some (.int .i64 0):=by rw [hxs]; rfl
 have x3 : xs[3]? = some (.string ⟨#[]⟩):=by rw [hxs]; rfl
 have x4 : xs[4]? = some (.bool false):=by rw [hxs]; rfl
 have x5 : xs[5]? = some (.string ⟨#[]⟩):=by rw [hxs]; rfl
 have x6 : xs[6]? = some (.string ⟨#[]⟩):=by rw [hxs]; rfl
 have x7 : xs[7]? = some (.bool false):=by rw [hxs]; rfl
 have x8 : xs[8]? = some (.string ⟨#[]⟩):=by rw [hxs]; rfl
 have x9 : xs[9]? = some (.int .i64 0):=by rw [hxs]; rfl
 have x10 : xs[10]? = some (.string ⟨#[]⟩):=by rw [hxs]; rfl
 have x11 : xs[11]? = some (.int .i64 0):=by rw [hxs]; rfl
 have x12 : xs[12]? = some (.int .i64 0):=by rw [hxs]; rfl
 have x13 : xs[13]? = some (.int .i64 0):=by rw [hxs]; rfl
 have x14 : xs[14]? = some (.int .i64 0):=by rw [hxs]; rfl
 have x15 : xs[15]? = some (.bool false):=by rw [hxs]; rfl
 have x16 : xs[16]? = some (.int .i64 0):=by rw [hxs]; rfl
 have x17 : xs[17]? = some (.string ⟨#[]⟩):=by rw [hxs]; rfl
 have x18 : xs[18]? = some (.string ⟨#[]⟩):=by rw [hxs]; rfl
 have x19 : xs[19]? = some (.string ⟨#[]⟩):=by rw [hxs]; rfl
 have x20 : xs[20]? = some (.slice none 0 0):=by rw [hxs]; rfl
 have x21 : xs[21]? = some (.string ⟨#[]⟩):=by rw [hxs]; rfl
 have x22 : xs[22]? = some (.slice none 0 0):=by rw [hxs]; rfl
 have x23 : xs[23]? = some (.slice none 0 0):=by rw [hxs]; rfl
 have x24 : xs[24]? = some (.slice none 0 0):=by rw [hxs]; rfl
 have x25 : xs[25]? = some (.slice none 0 0):=by rw [hxs]; rfl
 have x26 : xs[26]? = some (.string ⟨#[]⟩):=by rw [hxs]; rfl
 have x27 : xs[27]? = some (.bool false):=by rw [hxs]; rfl
 have x28 : xs[28]? = some (.slice none 0 0):=by rw [hxs]; rfl
 have x29 : xs[29]? = some (.int .i64 0):=by rw [hxs]; rfl
 have hw:=only_ways m xs hxs hk hn
 obtain ⟨z,hz⟩ : ∃ z,z = m.only.cells:=⟨_,rfl⟩
 rw [<- hz] at HZ HSZ hw |-
 rw [<- hcs]
 clear hcs hxs hz hk hn
 rcases hw with ⟨h,hs,ha,HZE⟩ | ⟨h,hs,ha,HZE⟩ | ⟨h,ha,HZE⟩ | ⟨h,ha,HZE⟩ | ⟨h,ha,HZE⟩ | ⟨h,ha,HZE⟩ | ⟨h,ha,HZE⟩ | ⟨h,ha,HZE⟩ | ⟨h,ha,HZE⟩ | ⟨h,ha,HZE⟩ | ⟨h,ha,HZE⟩ | ⟨h,ha,HZE⟩ | ⟨h,ha,HZE⟩
 all_goals (rw [ha] at HAN; rw [h] at HAN HXS c1; (try rw [hs] at c4); clear h ha; (try clear hs))
 clear c5 x5 c9 x9 c10 x10 c11 x11 c12 x12 c13 x13 c14 x14 c15 x15 c16 x16 c17 x17 c18 x18 c19 x19 c20 x20 c21 x21 c22 x22 c23 x23 c24 x24 c25 x25 c26 x26 c27 x27 c28 x28 c29 x29; rotate_left
 clear c6 x6 c7 x7 c8 x8 c9 x9 c10 x10 c11 x11 c12 x12 c13 x13 c14 x14 c15 x15 c16 x16 c17 x17 c18 x18 c19 x19 c20 x20 c21 x21 c22 x22 c23 x23 c24 x24 c25 x25 c26 x26 c27 x27 c28 x28 c29 x29; rotate_left
 clear c2 x2 c4 x4 c5 x5 c6 x6 c7 x7 c8 x8 c9 x9 c10 x10 c24 x24 c25 x25 c26 x26 c27 x27 c28 x28 c29 x29; rotate_left
 clear c2 x2 c4 x4 c5 x5 c6 x6 c7 x7 c8 x8 c9 x9 c10 x10 c11 x11 c12 x12 c13 x13 c14 x14 c15 x15 c16 x16 c17 x17 c18 x18 c19 x19 c20 x20 c21 x21 c22 x22 c23 x23 c25 x25 c26 x26 c27 x27 c28 x28 c29 x29; rotate_left
 clear c2 x2 c4 x4 c5 x5 c6 x6 c7 x7 c8 x8 c9 x9 c10 x10 c11 x11 c12 x12 c13 x13 c14 x14 c15 x15 c16 x16 c17 x17 c18 x18 c19 x19 c20 x20 c21 x21 c22 x22 c23 x23 c25 x25 c26 x26 c27 x27 c28 x28 c29 x29; rotate_left
 clear c2 x2 c4 x4 c5 x5 c6 x6 c7 x7 c8 x8 c9 x9 c10 x10 c11 x11 c12 x12 c13 x13 c14 x14 c15 x15 c16 x16 c17 x17 c18 x18 c19 x19 c20 x20 c21 x21 c22 x22 c23 x23 c24 x24 c26 x26 c27 x27 c28 x28 c29 x29; rotate_left
 clear c2 x2 c4 x4 c5 x5 c6 x6 c7 x7 c8 x8 c9 x9 c10 x10 c11 x11 c12 x12 c13 x13 c14 x14 c15 x15 c16 x16 c17 x17 c18 x18 c19 x19 c20 x20 c21 x21 c22 x22 c23 x23 c24 x24 c25 x25 c29 x29; rotate_left
 clear c2 x2 c4 x4 c5 x5 c7 x7 c9 x9 c10 x10 c11 x11 c12 x12 c13 x13 c14 x14 c15 x15 c16 x16 c17 x17 c18 x18 c19 x19 c20 x20 c21 x21 c22 x22 c23 x23 c24 x24 c25 x25 c26 x26 c27 x27 c28 x28 c29 x29; rotate_left
 clear c2 x2 c3 x3 c4 x4 c5 x5 c6 x6 c7 x7 c8 x8 c9 x9 c10 x10 c11 x11 c12 x12 c13 x13 c14 x14 c15 x15 c16 x16 c17 x17 c18 x18 c19 x19 c20 x20 c21 x21 c22 x22 c23 x23 c24 x24 c25 x25 c26 x26 c27 x27 c28 x28; rotate_left
 clear c2 x2 c3 x3 c4 x4 c5 x5 c9 x9 c10 x10 c11 x11 c12 x12 c13 x13 c14 x14 c15 x15 c16 x16 c17 x17 c18 x18 c19 x19 c20 x20 c21 x21 c22 x22 c23 x23 c24 x24 c25 x25 c26 x26 c27 x27 c28 x28 c29 x29; rotate_left
 clear c2 x2 c3 x3 c4 x4 c5 x5 c6 x6 c7 x7 c8 x8 c9 x9 c10 x10 c11 x11 c12 x12 c13 x13 c14 x14 c15 x15 c16 x16 c17 x17 c18 x18 c19 x19 c20 x20 c21 x21 c22 x22 c23 x23 c24 x24 c25 x25 c26 x26 c27 x27 c28 x28 c29 x29; rotate_left
 clear c2 x2 c4 x4 c5 x5 c6 x6 c7 x7 c8 x8 c9 x9 c10 x10 c11 x11 c12 x12 c13 x13 c14 x14 c15 x15 c16 x16 c17 x17 c18 x18 c19 x19 c20 x20 c21 x21 c22 x22 c23 x23 c24 x24 c25 x25 c26 x26 c27 x27 c28 x28 c29 x29; rotate_left
 clear c2 x2 c4 x4 c5 x5 c7 x7 c8 x8 c11 x11 c12 x12 c13 x13 c14 x14 c15 x15 c16 x16 c17 x17 c18 x18 c19 x19 c20 x20 c21 x21 c22 x22 c23 x23 c24 x24 c25 x25 c26 x26 c27 x27 c28 x28 c29 x29; rotate_left
 all_goals
  go_enter Tryz.func36,Tryz.ntmps36
  go_wp2_with (first
   | (refine cW rfl 30 (.tmp 3) (.tmp 10) rfl xs 30 _ rfl ?_ ?_ ?_ ?_ hall.out ?_; (simp [Act.eval]); (rw [<- HXS.out]; rfl); (rw [HXZ.out]; rfl); (rw [HXZ.out]; exact HS.out); rw [HXS.out,HZS.out])
   | (refine wpList_load_row rfl 30 (.tmp 3) rfl (w.heap.size + 1 + 1) rfl 30 z (0,0) _ ?_ Tryz.underlying30 rfl ?_ ?_; (rw [<- HZE.out]; exact heap3_new _ _ _ _); (rw [HSZ.out]; exact HS.out))
   | (refine ap rfl 30 (.tmp 2) (.tmp 135) rfl (w.heap.size + 1) rfl z rfl 30 zs ?_ ?_ ?_ HZ.out ?_; (exact (Bk.new2 w _ _ _).alloc _); (rw [HSZ.out,HZZ.out]); (rw [HSZ.out]; exact HS.out); intro w3 hb3 ho3; have HB3:=aa hb3; have HO3:=aa ho3; clear hb3 ho3)
   | (go_at_call 34; refine (HAN.out _).mono ?_; rintro e w1 ⟨rfl,rfl⟩)
   | fail)
  refine bodyPost_ret (results_cell_row Tryz.results36 _ _ (w.heap.size + 1) 30 z (0,0) _ rfl HB3.out Tryz.underlying30 rfl (by rw [HSZ.out]; exact HS.out)) rfl ⟨rfl,?_⟩
  exact (((((Below.refl _ w).alloc (Nat.le_refl _) _).alloc (by simp) _).alloc (by simp; omega) _).trans (HO3.out.below (by simp; omega) (by simp)))
theorem ronly_ans (m : MC) (w : World) (h : aD m.op = true) (h24 : m.op ≠ 24) : Calls Tryz.prog 36 #[.agg m.cells] w (dZ m.only w):=by
 have HS:=aa aT
 have HAN:=aa fun (W : World) => (show Calls _ _ _ _ (cU (aD m.op) W) from ec m.op W)
 obtain ⟨xs,HXS,hxs⟩:=xlit m.id m.op m.controls
 obtain ⟨zs,HZS,HZZ⟩:=zlit
 obtain ⟨cs,hcs⟩ : ∃ cs,cs = m.cells:=⟨_,rfl⟩
 have HZ : Hid (m.only.cells.all (·.oneCell') = true):=cF _
 have HSZ : Hid (m.only.cells.size = 31):=cJ _
 unfold dZ
 have hall : Hid (xs.all (·.oneCell') = true):=by rw [hxs]; exact cF _
 have HXZ : Hid (xs.size = 31):=by rw [hxs]; exact cJ _
 have c0 : cs[0]? = some (.int .i64 m.id):=by rw [hcs]; rfl
 have c1 : cs[1]? = some (.int .i64 m.op):=by rw [hcs]; rfl
 have c30 : cs[30]? = some (.slice m.controls.A m.controls.n m.controls.c):=by rw [hcs]; rfl
 have c3 : cs[3]? = some (.string m.name):=by rw [hcs]; rfl
 have c9 : cs[9]? = some (.int .i64 m.code):=by rw [hcs]; rfl
 have c10 : cs[10]? = some (.string m.text):=by rw [hcs]; rfl
 have x3 : xs[3]? = some (.string ⟨#[]⟩):=by rw [hxs]; rfl
 have x9 : xs[9]? = some (.int .i64 0):=by rw [hxs]; rfl
 have x10 : xs[10]? = some (.string ⟨#[]⟩):=by rw [hxs]; rfl
 rw [h] at HAN
 have hno : m.op ≠ 0 /\ m.op ≠ 2 /\ m.op ≠ 3 /\ m.op ≠ 4 /\ m.op ≠ 6 /\ m.op ≠ 8 /\ m.op ≠ 10 /\ m.op ≠ 12 /\ m.op ≠ 14 /\ m.op ≠ 16 /\ m.op ≠ 23:=by unfold aD at h; simp at h; omega
 have b0 : (m.op == 0) = false:=by simp; omega
 have b2 : (m.op == 2) = false:=by simp; omega
 have b3 : (m.op == 3) = false:=by simp; omega
 have b4 : (m.op == 4) = false:=by simp; omega
 have b6 : (m.op == 6) = false:=by simp; omega
 have b8 : (m.op == 8) = false:=by simp; omega
 have b10 : (m.op == 10) = false:=by simp; omega
 have b12 : (m.op == 12) = false:=by simp; omega
 have b14 : (m.op == 14) = false:=by simp; omega
 have b16 : (m.op == 16) = false:=by simp; omega
 have b23 : (m.op == 23) = false:=by simp; omega
 have b24 : (m.op == 24) = false:=by simp; omega
 have n2 : (m.op != 2) = true:=by simp; omega
 have n16 : (m.op != 16) = true:=by simp; omega
 have n23 : (m.op != 23) = true:=by simp; omega
 have HZE:=aa (show (((xs.setIfInBounds 3 (.string m.name)).setIfInBounds 9 (.int .i64 m.code)).setIfInBounds 10 (.string m.text)) = m.only.cells by rw [hxs]; unfold MC.only; simp [hno,h24,MC.zero,MC.cells,FC.zero,Rw.none])
 obtain ⟨z,hz⟩ : ∃ z,z = m.only.cells:=⟨_,rfl⟩
 rw [<- hz] at HZ HSZ HZE |-
 rw [<- hcs]
 clear hcs hxs hz h hno h24
 go_enter Tryz.func36,Tryz.ntmps36
 go_wp2_with (first
  | (refine cW rfl 30 (.tmp 3) (.tmp 10) rfl xs 30 _ rfl ?_ ?_ ?_ ?_ hall.out ?_; (simp [Act.eval]); (rw [<- HXS.out]; rfl); (rw [HXZ.out]; rfl); (rw [HXZ.out]; exact HS.out); rw [HXS.out,HZS.out])
  | (refine wpList_load_row rfl 30 (.tmp 3) rfl (w.heap.size + 1 + 1) rfl 30 z (0,0) _ ?_ Tryz.underlying30 rfl ?_ ?_; (rw [<- HZE.out]; exact heap3_new _ _ _ _); (rw [HSZ.out]; exact HS.out))
  | (refine ap rfl 30 (.tmp 2) (.tmp 135) rfl (w.heap.size + 1) rfl z rfl 30 zs ?_ ?_ ?_ HZ.out ?_; (exact (Bk.new2 w _ _ _).alloc _); (rw [HSZ.out,HZZ.out]); (rw [HSZ.out]; exact HS.out); intro w3 hb3 ho3; have HB3:=aa hb3; have HO3:=aa ho3; clear hb3 ho3)
  | (go_at_call 34; refine (HAN.out _).mono ?_; rintro e w1 ⟨rfl,rfl⟩)
  | fail)
 refine bodyPost_ret (results_cell_row Tryz.results36 _ _ (w.heap.size + 1) 30 z (0,0) _ rfl HB3.out Tryz.underlying30 rfl (by rw [HSZ.out]; exact HS.out)) rfl ⟨rfl,?_⟩
 exact (((((Below.refl _ w).alloc (Nat.le_refl _) _).alloc (by simp) _).alloc (by simp; omega) _).trans (HO3.out.below (by simp; omega) (by simp)))
theorem ronly_any (m : MC) (w : World) (hk : aM m.op = true) : Calls Tryz.prog 36 #[.agg m.cells] w (dZ m.only w):=by
 by_cases h24 : m.op = 24
 ·exact ronly_known m w hk (.inl h24)
 cases ha : aD m.op
 ·exact ronly_known m w hk (.inr ha)
 ·exact ronly_ans m w ha h24
end Go.Proofs.YtbiglfpikfjbpaaGreatDoor
