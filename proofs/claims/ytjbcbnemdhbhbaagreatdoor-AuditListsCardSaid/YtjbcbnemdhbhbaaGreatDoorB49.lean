import Derived.Test.YtjbcbnemdhbhbaaGreatDoorB40
import Derived.Test.YtjbcbnemdhbhbaaGreatDoorB39
import Derived.Test.YtjbcbnemdhbhbaaGreatDoorB44
import Derived.Test.YtjbcbnemdhbhbaaGreatDoorB43
set_option maxRecDepth 100000
set_option linter.unusedVariables false
set_option linter.unusedSimpArgs false
set_option maxHeartbeats 40000000
open Go renaming World→AI
open List renaming mem_append→AT
namespace Go.Proofs.YtjbcbnemdhbhbaaGreatDoor
open Go.Proofs.Tryz
open Go.RowKit
structure C6 (w:AI) (d:Di) (Sd:List Nat) (D:DevS) (σ :ag) (Fo:Forest) (txn aa limit sp:Nat) (i:Int) (s1:St) (W:AI):Prop where
 db:gK W { d with s:=s1 }
 snap:iV W sp d.b i d.P.m d.pv false
 dev:Dev W d.g Sd D
 row:aO W
 off:ah [d.r] w W
def Di.kr (d:Di) (Sd:List Nat) (D:DevS) (σ :ag):Kr:=⟨d.q,d.g,d.T,Sd,d.P,D,σ⟩
theorem vV.kr{D:DevS}{d:Di}{σ :ag}{Fo:Forest}{txn aa limit:Nat}{Sd:List Nat}(h:vV D d.P d.fr d.m7 σ Fo txn aa limit)(ht:txn<=1000):(d.kr Sd D σ).Ok:=by
 refine⟨h.calm.on,?_,fun n p hn=> ?_⟩
 ·show D.steps<=1000000000
  have:=h.steps;omega
 ·obtain⟨h1,t,h2⟩:=h.on n p hn
  have hm:=h.ok.full n (by rw[show σ n=some p from hn];simp);have h3:=(eP.1 (h.perm.mem_iff.1 (AT.2 (.inr (AT.2 (.inl hm)))))).2;have h4:=h.one.2;refine⟨h1,?_,t,h2⟩;show (n:Int)<d.P.m.l;rw[h.m];show (n:Int)<(limit:Int);omega
theorem C6.on{w W:AI}{d:Di}{Sd:List Nat}{D:DevS}{σ :ag}{Fo:Forest}{txn aa limit sp:Nat}{i:Int}{s1:St}(h:C6 w d Sd D σ Fo txn aa limit sp i s1 W)(hp:vV D d.P d.fr d.m7 σ Fo txn aa limit)(ht:txn<=1000):SnapOn W sp d.b (d.kr Sd D σ) i d.P.m d.pv Fo:=
 ⟨h.snap,⟨_,h.db.top,rfl⟩,hp.kr ht,h.db.pg,h.dev,h.row,hp.ok,hp.R,by rw[hp.m]⟩
theorem C6.below{w W W':AI}{d:Di}{Sd:List Nat}{D:DevS}{σ :ag}{Fo:Forest}{txn aa limit sp:Nat}{i:Int}{s1:St}(h:C6 w d Sd D σ Fo txn aa limit sp i s1 W)(hb:Below W.heap.size W W'):C6 w d Sd D σ Fo txn aa limit sp i s1 W':=
 ⟨h.db.below hb,af h.snap hb,h.dev.below hb,h.row.below hb,h.off.trans (ah.ae hb [d.r])⟩
theorem Im{w:AI}{d:Di}{Sd:List Nat}{D:DevS}{σ :ag}{Fo:Forest}{txn aa limit:Nat}(h:fy w d Sd D σ Fo txn aa limit)(hs:d.s=St.empty)(ht:txn<=1000):
  Calls prog 15 #[.pointer (some ⟨d.b,0,none⟩)] w (fun e w'=>∃sp,e= .returned (.tuple #[.pointer (some ⟨sp,0,none⟩),.int .i64 0])/\C6 w d Sd D σ Fo txn aa limit sp 0 ⟨some (txn:Int),none,none,none⟩ w'/\w.heap.size<=sp):=by
 have hp:=h.plain;have wO:d.s.enter d.P.m.t=(⟨some (txn:Int),none,none,none⟩,0,0):=by
  have hir:mH (txn:Int)=true:=by unfold mH;rw[decide_eq_true (by omega),decide_eq_true (by omega)];rfl
  rw[hs,hp.m];show St.empty.enter (txn:Int)=_;unfold St.enter;rw[if_pos hir];rfl
 have qh:0≠d.r:=fun e=>by
  have h1:=h.row 0 (by omega);have h2:=h.db.rd.cell 0;rw[<-e]at h2;exact absurd (h1.symm.trans h2) (by simp[St.cells])
 have SI:d.r∉Sd:=h.ap.2.1;refine(WA h.db wO).mono ?_;rintro e w1 ⟨sp,rfl,ho,hd,wR,qo⟩;have ae0:∀x∈Sd,x∉[d.r]:=fun x hx hm=>by rw[List.mem_singleton]at hm;subst hm;exact SI hx
 exact⟨sp,rfl,⟨hd,wR,h.dev.off ho ae0,h.row.off ho (by simpa using qh),ho⟩,qo⟩
end Go.Proofs.YtjbcbnemdhbhbaaGreatDoor
