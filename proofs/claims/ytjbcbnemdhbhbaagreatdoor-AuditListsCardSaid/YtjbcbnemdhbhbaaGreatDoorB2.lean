import Derived.Test.YtjbcbnemdhbhbaaGreatDoorChecked
import Derived.WalkKit
import Derived.WalkSpells
import Derived.WalkLawsBesides
import Derived.RegionTactic
import Derived.Lib.Hide
import Derived.Lib.Builder
import Derived.Lib.AppendStr
import Derived.Lib.UnsafeStr
import Derived.Lib.Slices
import Derived.Lib.Strings
import Derived.Laws.Externs
import Derived.Outline
import Derived.Lib.FrozenHead
import Derived.Test.YtjbcbnemdhbhbaaGreatDoorB1
import Derived.Lib.MakeNoZero
import Derived.Laws.BitsAllLaws
import Derived.Deep.CutBlock
set_option maxRecDepth 100000
set_option linter.unusedVariables false
set_option linter.unusedSimpArgs false
set_option maxHeartbeats 40000000
open Array renaming getElem?_eq_none→adR
open Bool renaming and_eq_true→abM
open ByteArray renaming size_append→acj
open Go renaming Calls→aag,Value→IS,World→AI,lt_of_block→adu,maxLen→abi,run_callFunc_extern→agM
open Go.Builtin renaming unsafeSliceData_→aet
open Go.Lib renaming BuilderAt→ags,byteCells→acM,byteCells_length→ade,cell_of_heap→acy,frozen_of_heap→agX,hid→sh,run_unsafeSliceData_row→agy,strCells→agI
open Go.Op renaming bytesLess→acm
open Go.Result renaming andThen→afH
open Go.RowKit renaming Below→No
open Go.RowKit.Below renaming refl→IN
open Go.World renaming setCell→aeH,shape?→aga
open List renaming all_eq_true→aeo,getElem_mem→abw,length_cons→abB,length_replicate→adU,replicate→abQ,take_of_length_le→abI,take_succ_eq_append_getElem→aaT
open Nat renaming le_refl→AS,lt_or_ge→agh,zero_le→abc
namespace Go.Proofs.YtjbcbnemdhbhbaaGreatDoor
open Go.Proofs.Tryz
open Go.RowKit
theorem GK:(prog.info? 300).map (·.size)=some 2:=by kernel_rfl
theorem RG:liesAt prog prog.depth 300 (2/prog.cellsOf 300) 0 300 1=true:=by kernel_rfl
theorem GJ:(prog.info? 5).map (fun i=>(i.zero,i.size,i.bytes))=some (some (.int .u8 0),1,1):=by kernel_rfl
theorem Cg:prog.cellsOf 5=1:=by kernel_rfl
theorem NX:(300:TypeId)≠5:=by decide
def SB (B b:Nat) (l:List UInt8) (w:AI):Prop:=Lib.IsBuilder 300 5 B b (acM l) w
theorem ng(b:Nat)(w:AI)(h0:w.cell? ⟨b,0,none⟩=some (.pointer (some ⟨b,0,none⟩))):
  aag prog 244 #[.pointer (some ⟨b,0,none⟩)] w fun e w'=>e= .returned (.tuple #[])/\w'=w:=by
 obtain⟨j,hj,_⟩:=Option.map_eq_some_iff.1 GK;go_enter func244,ntmps244
 go_wp2
 rw[Lib.run_neq_ptr_same w _ underlying298 hj]
 go_wp2
 go_end0
 exact⟨rfl,rfl⟩
theorem iI(b:Nat)(w:AI)(h0:w.cell? ⟨b,0,none⟩=some (.pointer none))(hsh:w.shape? b=some (300,2))(Z6:w.frozen? ⟨b,0,none⟩=false):
  aag prog 244 #[.pointer (some ⟨b,0,none⟩)] w fun e w'=>e= .returned (.tuple #[])/\w'=w.setCell ⟨b,0,none⟩ (.pointer (some ⟨b,0,none⟩)):=by
 obtain⟨j,hj,hjs⟩:=Option.map_eq_some_iff.1 GK;go_enter func244,ntmps244
 go_wp2
 rw[Lib.run_to_unsafe w ⟨b,0,none⟩ underlying298 underlying357 hj (by rw[hjs];decide) hsh (Nat.zero_lt_succ 1)];simp only[afH];rw[Oper.upon_value]
 go_wp2
 rw[agM func263 (by kernel_rfl) (by kernel_rfl) (by kernel_rfl) (e:=Extern.AbiNoEscape.same) (by kernel_rfl)];rw[Lib.run_noEscape];simp only[afH];rw[Oper.upon_value]
 go_wp2
 rw[Lib.run_from_unsafe w ⟨b,0,none⟩ underlying357 underlying298 hj hsh RG];simp only[afH];rw[Oper.upon_value]
 go_wp2
 go_end0
 exact⟨rfl,rfl⟩
theorem NW(B b:Nat)(bs:List IS)(w:AI)(h:Lib.IsBuilder 300 5 B b bs w):
  aag prog 244 #[.pointer (some ⟨b,0,none⟩)] w fun e w'=>e= .returned (.tuple #[])/\(ags 300 5 B b (.pointer (some ⟨b,0,none⟩)) bs w'/\No B w w'):=by
 rcases h with h|h
 ·refine(iI b w h.cell0 h.shape h.frozen0).mono ?_
  rintro e w' ⟨rfl,rfl⟩;exact⟨rfl,h.used _,(IN B w).setCell (p:=⟨b,0,none⟩) h.1 _⟩
 ·refine(ng b w h.cell0).mono ?_
  rintro e w' ⟨rfl,rfl⟩;exact⟨rfl,h,IN B _⟩
theorem Wu(B b:Nat)(l:List UInt8)(w:AI)(h:SB B b l w):
  aag prog 206 #[.pointer (some ⟨b,0,none⟩)] w fun e w'=>e= .returned (.int .i64 l.length)/\w=w':=by
 obtain⟨p,hB,v,aU,au,bL⟩:∃p,ags 300 5 B b p (acM l) w:=by
  rcases h with h|h
  ·exact⟨_,h⟩
  ·exact⟨_,h⟩
 rw[ade]at au;obtain⟨ao,cap,rfl⟩:∃ao cap,v= .slice ao l.length cap:=by
  rcases au.2 with⟨hv,h0⟩|⟨g,cap,cur,hv,_⟩
  ·exact⟨none,0,by rw[hv,h0]⟩
  ·exact⟨_,_,hv⟩
 have c1:w.cell? ⟨b,1,none⟩=some (.slice ao l.length cap):=by rw[acy aU];rfl
 go_enter func206,ntmps206
 go_wp2
 go_ret
 exact⟨rfl,rfl⟩
theorem jW(B b:Nat)(l:List UInt8)(s:ByteArray)(w:AI)(h:SB B b l w)(hlen:l.length+s.size<=140737488355328)(OQ:B<=w.heap.size):
  aag prog 204 #[.pointer (some ⟨b,0,none⟩),.string s] w fun e w'=>e= .returned (.tuple #[.int .i64 s.size,.nilIface])/\(SB B b (l++s.data.toList) w'/\No B w w'):=by
 obtain⟨i0,hi,Eo,qq,Bl⟩:=info_parts GJ;have HC:=sh (NW B b _ w h);have hl:=ade l;go_enter func204,ntmps204
 go_wp2_with (go_at_call 244;refine HC.out.mono ?_)
 rintro e w1 ⟨rfl,h1,ar⟩;obtain⟨hB,v,aU,au,bL⟩:=h1;have c0:w1.cell? ⟨b,0,none⟩=some (.pointer (some ⟨b,0,none⟩)):=by rw[acy aU];rfl
 have c1:w1.cell? ⟨b,1,none⟩=some v:=by rw[acy aU];rfl
 go_wp2_with (at_builtin;refine Lib.wpList_append_own_string _ rfl _ _ 36 9 rfl B 5 i0 underlying36 underlying9 hi Eo qq Bl _ _ _ rfl au s rfl ?c3 ?c4 ?c5 ?_)
 case c3=>unfold abi;omega
 case c4=>omega
 case c5=>have:=ar.size;omega
 intro v' w2 lP bX _;have aI:b<w1.heap.size:=by
  rcases agh b w1.heap.size with h'|h'
  ·exact h'
  ·simp[adR h']at aU
 have az:w2.heap[b]? =some (.cells #[.pointer (some ⟨b,0,none⟩),v] 300 (0,0)):=by
  rw[bX.block b aI (fun e=>bL e.symm)];exact aU
 have d0:w2.cell? ⟨b,0,none⟩=some (.pointer (some ⟨b,0,none⟩)):=by rw[acy az];rfl
 have d1:w2.cell? ⟨b,1,none⟩=some v:=by rw[acy az];rfl
 have f1:w2.frozen? ⟨b,1,none⟩=false:=agX az 1;obtain⟨ao,n',cap,rfl⟩:∃ao n' cap,v'= .slice ao n' cap:=by
  rcases lP.2 with⟨hv,_⟩|⟨g,cap,cur,hv,_⟩
  ·exact⟨_,_,_,hv⟩
  ·exact⟨_,_,_,hv⟩
 go_wp2
 go_ret2
 refine⟨rfl,?_,?_⟩
 ·refine Or.inr ?_
  have e:acM (l++s.data.toList)=acM l++agI s:=by simp[acM,agI]
  rw[e];exact Lib.BuilderAt.put (T:=300) (e:=5) hB az (by simpa[Lib.strCells_length,ade]using lP) NX
 ·exact(ar.grown bX (by have:=ar.size;omega) (fun k hk=>(au.lt k hk).1)).setCell (p:=⟨b,1,none⟩) hB _
theorem ur(B b:Nat)(l:List UInt8)(w:AI)(h:SB B b l w)(h0:l≠[]):
  aag prog 207 #[.pointer (some ⟨b,0,none⟩)] w fun e w'=>e= .returned (.string ⟨l.toArray⟩)/\No B w w':=by
 obtain⟨p,hB,v,aU,au,bL⟩:∃p,ags 300 5 B b p (acM l) w:=by
  rcases h with h|h
  ·exact⟨_,h⟩
  ·exact⟨_,h⟩
 have O0:l.length≠0:=by simpa using h0
 rw[ade]at au;obtain⟨g,cap,cur,rfl,Ar,hg,QH,dC,fu,cW⟩:∃g cap cur,v= .slice (some ⟨g,0,none⟩) l.length cap/\B<=g/\w.heap[g]? =some (.cells cur 5 (0,0))/\l.length<=cap/\cap<=abi/\cur.size=cap*1/\cur.toList.take (l.length*1)=acM l:=by
  rcases au.2 with⟨_,hz⟩|⟨g,cap,cur,hv,r⟩
  ·exact absurd hz O0
  ·exact⟨g,cap,cur,hv,r⟩
 have c1:w.drew.cell? ⟨b,1,none⟩=some (.slice (some ⟨g,0,none⟩) l.length cap):=by
  have:w.drew.heap[b]? =some (.cells #[p,.slice (some ⟨g,0,none⟩) l.length cap] 300 (0,0)):=aU;rw[acy this];rfl
 have hSD:(aet #[36] 342 #[.slice (some ⟨g,0,none⟩) l.length cap]).run prog w.drew= .ok (.pointer (some ⟨g,0,none⟩)) w.drew:=
  agy _ _ _ _ _ _ (by omega)
 have hUS:(Builtin.unsafeString_ #[342,3] 9 #[.pointer (some ⟨g,0,none⟩),.int .i64 l.length]).run prog w.drew= .ok (.string ⟨l.toArray⟩) (w.drew.freeze ⟨g,0,none⟩ l.length):=by
  refine Lib.run_unsafeString_row w.drew 342 3 9 5 underlying342 Cg g cur.size (by have uT:w.drew.heap[g]? =some (.cells cur 5 (0,0)):=hg;simp[aga,uT]) l h0 (by omega) (by unfold abi at dC;omega) ?_;intro j x hx;have:=au.cells (g:=g) rfl j (.int .u8 x.toNat) (by simp[acM,hx]);exact this
 clear h cW fu dC QH O0 au bL;go_enter func207,ntmps207
 go_wp2
 go_region
 all_goals (go_wp2;go_ret;exact⟨rfl,Lib.below_freeze (Below.drew (IN B w)) (p:=⟨g,0,none⟩) Ar _⟩)
theorem nY(W:AI)(q:Option Addr):(Builtin.unsafeString_ #[342,3] 9 #[.pointer q,.int .i64 0]).run prog W= .ok (.string .empty) W:=
 Lib.run_unsafeString_none W _ _ _ q
theorem vK(B b:Nat)(p:IS)(w:AI)(aU:w.heap[b]? =some (.cells #[p,.slice none 0 0] 300 (0,0))):
  aag prog 207 #[.pointer (some ⟨b,0,none⟩)] w fun e w'=>e= .returned (.string ⟨#[]⟩)/\No B w w':=by
 have hUS:=nY;have c1:w.drew.cell? ⟨b,1,none⟩=some (.slice none 0 0):=by
  have:w.drew.heap[b]? =some (.cells #[p,.slice none 0 0] 300 (0,0)):=aU;rw[acy this];rfl
 have hSD:(aet #[36] 342 #[.slice none 0 0]).run prog w.drew= .ok (.pointer none) w.drew:=rfl;clear aU;go_enter func207,ntmps207
 go_wp2
 go_region
 all_goals (go_wp2;go_ret;exact⟨rfl,Below.drew (IN B w)⟩)
theorem qD(B b g:Nat)(p:IS)(cur:Array IS)(w:AI)(OQ:B<=w.heap.size)(aU:w.heap[b]? =some (.cells #[p,.slice (some ⟨g,0,none⟩) 0 0] 300 (0,0)))(hg:w.heap[g]? =some (.cells cur 5 (0,0))):
  aag prog 207 #[.pointer (some ⟨b,0,none⟩)] w fun e w'=>e= .returned (.string ⟨#[]⟩)/\No B w w':=by
 have hUS:=nY;have aI:b<w.heap.size:=by
  rcases agh b w.heap.size with h'|h'
  ·exact h'
  ·simp[adR h']at aU
 have c1:w.drew.cell? ⟨b,1,none⟩=some (.slice (some ⟨g,0,none⟩) 0 0):=by
  have:w.drew.heap[b]? =some (.cells #[p,.slice (some ⟨g,0,none⟩) 0 0] 300 (0,0)):=aU;rw[acy this];rfl
 have hSD:(aet #[36] 342 #[.slice (some ⟨g,0,none⟩) 0 0]).run prog w.drew= .ok (.pointer (some ⟨w.drew.heap.size,0,none⟩)) (w.drew.alloc (.view ⟨g,0,none⟩ 5)):=
  Lib.run_unsafeSliceData_zero w.drew _ _ 5 underlying342 ⟨g,0,none⟩ 0 (5,cur.size) (by have uT:w.drew.heap[g]? =some (.cells cur 5 (0,0)):=hg;simp[aga,uT])
 have c2:(w.drew.alloc (.view ⟨g,0,none⟩ 5)).cell? ⟨b,1,none⟩=some (.slice (some ⟨g,0,none⟩) 0 0):=by
  have:(w.drew.alloc (.view ⟨g,0,none⟩ 5)).heap[b]? =_:=(Lib.alloc_old w.drew _ b aI).trans aU;rw[acy this];rfl
 have c3:(w.alloc (.view ⟨g,0,none⟩ 5)).drew.cell? ⟨b,1,none⟩=some (.slice (some ⟨g,0,none⟩) 0 0):=c2;have c0:w.cell? ⟨b,1,none⟩=some (.slice (some ⟨g,0,none⟩) 0 0):=c1;clear aU hg aI;go_enter func207,ntmps207
 go_wp2
 go_region
 all_goals (go_wp2;go_ret;exact⟨rfl,(Below.drew (IN B w)).alloc OQ _⟩)
theorem uq(B b g cap:Nat)(p:IS)(w:AI)(Av:cap≠0)(aU:w.heap[b]? =some (.cells #[p,.slice (some ⟨g,0,none⟩) 0 cap] 300 (0,0))):
  aag prog 207 #[.pointer (some ⟨b,0,none⟩)] w fun e w'=>e= .returned (.string ⟨#[]⟩)/\No B w w':=by
 have hUS:=nY;have c1:w.drew.cell? ⟨b,1,none⟩=some (.slice (some ⟨g,0,none⟩) 0 cap):=by
  have:w.drew.heap[b]? =some (.cells #[p,.slice (some ⟨g,0,none⟩) 0 cap] 300 (0,0)):=aU;rw[acy this];rfl
 have hSD:(aet #[36] 342 #[.slice (some ⟨g,0,none⟩) 0 cap]).run prog w.drew= .ok (.pointer (some ⟨g,0,none⟩)) w.drew:=
  agy _ _ _ _ _ _ Av
 clear Av aU;go_enter func207,ntmps207
 go_wp2
 go_region
 all_goals (go_wp2;go_ret;exact⟨rfl,Below.drew (IN B w)⟩)
theorem xt(B b:Nat)(l:List UInt8)(w:AI)(h:SB B b l w)(OQ:B<=w.heap.size):
  aag prog 207 #[.pointer (some ⟨b,0,none⟩)] w fun e w'=>e= .returned (.string ⟨l.toArray⟩)/\No B w w':=by
 cases l with
 | cons x r=>exact ur B b (x::r) w h (by simp)
 | nil=>
  obtain⟨p,hB,v,aU,au,bL⟩:∃p,ags 300 5 B b p [] w:=by
   rcases h with h|h
   ·exact⟨_,h⟩
   ·exact⟨_,h⟩
  rcases au.2 with⟨rfl,_⟩|⟨g,cap,cur,rfl,Ar,hg,_,_,_,_⟩
  ·exact vK B b p w aU
  ·by_cases Av:cap=0
   ·subst Av
    exact qD B b g p cur w OQ aU hg
   ·exact uq B b g cap p w Av aU
theorem NY(w:AI):SB w.heap.size w.heap.size [] (w.alloc (.cells #[.pointer none,.slice none 0 0] 300)):=
 Or.inl ⟨AS _,.slice none 0 0,heap_alloc_new w _,World.ownsRow_nil _ _ _ _,by simp[Value.ownBlock]⟩
theorem SB.below{B b:Nat}{l:List UInt8}{w w':AI}(h:SB B b l w)(hb:No w.heap.size w w'):SB B b l w':=by
 have key:∀p,ags 300 5 B b p (acM l) w->ags 300 5 B b p (acM l) w':=by
  rintro p ⟨hB,v,aU,au,bL⟩;refine⟨hB,v,(hb.block b (adu aU)).trans aU,?_,bL⟩;obtain⟨h1,h2⟩:=au;refine⟨h1,?_⟩;rcases h2 with h2|⟨g,cap,cur,rfl,Ar,hh,r⟩
  ·exact Or.inl h2
  ·exact Or.inr ⟨g,cap,cur,rfl,Ar,(hb.block g (adu hh)).trans hh,r⟩
 rcases h with h|h
 ·exact Or.inl (key _ h)
 ·exact Or.inr (key _ h)
def SF (B b:Nat) (l:List UInt8) (w:AI):Prop:=Lib.IsBuilderF 300 5 B b (acM l) w
theorem N3(B b:Nat)(bs:List IS)(w:AI)(h:Lib.IsBuilderF 300 5 B b bs w):
  aag prog 244 #[.pointer (some ⟨b,0,none⟩)] w fun e w'=>e= .returned (.tuple #[])/\(Lib.BuilderAtF 300 5 B b (.pointer (some ⟨b,0,none⟩)) bs w'/\No B w w'):=by
 rcases h with h|h
 ·refine(iI b w h.cell0 h.shape h.frozen0).mono ?_
  rintro e w' ⟨rfl,rfl⟩;exact⟨rfl,h.used _,(IN B w).setCell (p:=⟨b,0,none⟩) h.1 _⟩
 ·refine(ng b w h.cell0).mono ?_
  rintro e w' ⟨rfl,rfl⟩;exact⟨rfl,h,IN B _⟩
theorem Ww(B b:Nat)(l:List UInt8)(w:AI)(h:SF B b l w):
  aag prog 206 #[.pointer (some ⟨b,0,none⟩)] w fun e w'=>e= .returned (.int .i64 l.length)/\w=w':=by
 obtain⟨p,hB,v,aU,au,bL⟩:∃p,Lib.BuilderAtF 300 5 B b p (acM l) w:=by
  rcases h with h|h
  ·exact⟨_,h⟩
  ·exact⟨_,h⟩
 rw[ade]at au;obtain⟨ao,cap,rfl⟩:∃ao cap,v= .slice ao l.length cap:=by
  rcases au.2 with⟨hv,h0⟩|⟨g,cap,cur,fz,hv,_⟩
  ·exact⟨none,0,by rw[hv,h0]⟩
  ·exact⟨_,_,hv⟩
 have c1:w.cell? ⟨b,1,none⟩=some (.slice ao l.length cap):=by rw[acy aU];rfl
 go_enter func206,ntmps206
 go_wp2
 go_ret
 exact⟨rfl,rfl⟩
theorem Cj(B b:Nat)(l:List UInt8)(s:ByteArray)(w:AI)(h:SF B b l w)(hlen:l.length+s.size<=140737488355328)(OQ:B<=w.heap.size):
  aag prog 204 #[.pointer (some ⟨b,0,none⟩),.string s] w fun e w'=>e= .returned (.tuple #[.int .i64 s.size,.nilIface])/\(SF B b (l++s.data.toList) w'/\No B w w'):=by
 obtain⟨i0,hi,Eo,qq,Bl⟩:=info_parts GJ;have HC:=sh (N3 B b _ w h);have hl:=ade l;go_enter func204,ntmps204
 go_wp2_with (go_at_call 244;refine HC.out.mono ?_)
 rintro e w1 ⟨rfl,h1,ar⟩;obtain⟨hB,v,aU,au,bL⟩:=h1;have c0:w1.cell? ⟨b,0,none⟩=some (.pointer (some ⟨b,0,none⟩)):=by rw[acy aU];rfl
 have c1:w1.cell? ⟨b,1,none⟩=some v:=by rw[acy aU];rfl
 go_wp2_with (at_builtin;refine Lib.wpList_append_own_stringF _ rfl _ _ 36 9 rfl B 5 i0 underlying36 underlying9 hi Eo qq Bl _ _ _ rfl au s rfl ?c3 ?c4 ?c5 ?_)
 case c3=>unfold abi;omega
 case c4=>omega
 case c5=>have:=ar.size;omega
 intro v' w2 lP bX _;have aI:b<w1.heap.size:=adu aU;have az:w2.heap[b]? =some (.cells #[.pointer (some ⟨b,0,none⟩),v] 300 (0,0)):=by
  rw[bX.block b aI (fun e=>bL e.symm)];exact aU
 have d0:w2.cell? ⟨b,0,none⟩=some (.pointer (some ⟨b,0,none⟩)):=by rw[acy az];rfl
 have d1:w2.cell? ⟨b,1,none⟩=some v:=by rw[acy az];rfl
 have f1:w2.frozen? ⟨b,1,none⟩=false:=agX az 1;obtain⟨ao,n',cap,rfl⟩:∃ao n' cap,v'= .slice ao n' cap:=by
  rcases lP.2 with⟨hv,_⟩|⟨g,cap,cur,fz,hv,_⟩
  ·exact⟨_,_,_,hv⟩
  ·exact⟨_,_,_,hv⟩
 go_wp2
 go_ret2
 refine⟨rfl,?_,?_⟩
 ·refine Or.inr ?_
  have e:acM (l++s.data.toList)=acM l++agI s:=by simp[acM,agI]
  rw[e];exact Lib.BuilderAtF.put (T:=300) (e:=5) hB az (bs':=acM l++agI s) (by simpa[Lib.strCells_length,ade]using lP) NX
 ·exact(ar.grown bX (by have:=ar.size;omega) (fun k hk=>(au.lt k hk).1)).setCell (p:=⟨b,1,none⟩) hB _
theorem Jz(B b:Nat)(l:List UInt8)(w:AI)(h:SF B b l w)(h0:l≠[]):
  aag prog 207 #[.pointer (some ⟨b,0,none⟩)] w fun e w'=>e= .returned (.string ⟨l.toArray⟩)/\(SF B b l w'/\No B w w'):=by
 obtain⟨p,hp,hAt⟩:∃p,(p= .pointer none\/p= .pointer (some ⟨b,0,none⟩))/\Lib.BuilderAtF 300 5 B b p (acM l) w:=by
  rcases h with h|h
  ·exact⟨_,.inl rfl,h⟩
  ·exact⟨_,.inr rfl,h⟩
 obtain⟨hB,v,aU,au,bL⟩:=hAt;have O0:l.length≠0:=by simpa using h0
 rw[ade]at au;obtain⟨g,cap,cur,fz,rfl,Ar,hg,Z6,QH,dC,fu,cW⟩:∃g cap cur fz,v= .slice (some ⟨g,0,none⟩) l.length cap/\B<=g/\w.heap[g]? =some (.cells cur 5 fz)/\fz.2<=l.length*1/\l.length<=cap/\cap<=abi/\cur.size=cap*1/\cur.toList.take (l.length*1)=acM l:=by
  rcases au.2 with⟨_,hz⟩|⟨g,cap,cur,fz,hv,r⟩
  ·exact absurd hz O0
  ·exact⟨g,cap,cur,fz,hv,r⟩
 have c1:w.drew.cell? ⟨b,1,none⟩=some (.slice (some ⟨g,0,none⟩) l.length cap):=by
  have:w.drew.heap[b]? =some (.cells #[p,.slice (some ⟨g,0,none⟩) l.length cap] 300 (0,0)):=aU;rw[acy this];rfl
 have hSD:(aet #[36] 342 #[.slice (some ⟨g,0,none⟩) l.length cap]).run prog w.drew= .ok (.pointer (some ⟨g,0,none⟩)) w.drew:=
  agy _ _ _ _ _ _ (by omega)
 have hUS:(Builtin.unsafeString_ #[342,3] 9 #[.pointer (some ⟨g,0,none⟩),.int .i64 l.length]).run prog w.drew= .ok (.string ⟨l.toArray⟩) (w.drew.freeze ⟨g,0,none⟩ l.length):=by
  refine Lib.run_unsafeString_row w.drew 342 3 9 5 underlying342 Cg g cur.size (by have uT:w.drew.heap[g]? =some (.cells cur 5 fz):=hg;simp[aga,uT]) l h0 (by omega) (by unfold abi at dC;omega) ?_;intro j x hx;have:=au.cells (g:=g) rfl j (.int .u8 x.toNat) (by simp[acM,hx]);exact this
 have kJ:SF B b l (w.drew.freeze ⟨g,0,none⟩ l.length):=by
  have hA:Lib.BuilderAtF 300 5 B b p (acM l) w.drew:=⟨hB,_,aU,by rw[ade];exact au,bL⟩;have hF:=hA.froze (g:=g) (cap:=cap) (by rw[ade];exact c1);rw[ade]at hF;rcases hp with rfl|rfl
  ·exact .inl hF
  ·exact .inr hF
 clear h cW fu dC QH O0 au bL Z6;go_enter func207,ntmps207
 go_wp2
 go_region
 all_goals (go_wp2;go_ret;exact⟨rfl,kJ,Lib.below_freeze (Below.drew (IN B w)) (p:=⟨g,0,none⟩) Ar _⟩)
end Go.Proofs.YtjbcbnemdhbhbaaGreatDoor
namespace Go.Proofs.YtjbcbnemdhbhbaaGreatDoor
open Go.Proofs.Tryz
open Go.RowKit
open Go.PlainAid
theorem EC(c:Nat)(h:c<4294967296):bits .and .u64 (c:Int) 4294967295=(c:Int):=by
 have:=u64_and_nat c 4294967295 (by omega) (by decide);rw[show c &&& 4294967295=c%4294967296 from Nat.and_two_pow_sub_one_eq_mod c 32,Nat.mod_eq_of_lt h]at this;exact this
theorem Jc(c:Nat)(w:AI)(h:c<=100000):
  aag prog 209 #[.int .u64 1,.int .u64 c] w fun e w'=>e= .returned (.tuple #[.int .u64 0,.int .u64 c])/\w=w':=by
 have e1:=EC 1 (by decide);have e2:=EC c (by omega);have e3:=EC 0 (by decide);have e4:(c:Int)/4294967296=0:=by omega
 have e1':bits .and .u64 1 4294967295=1:=e1;have e3':bits .and .u64 0 4294967295=0:=e3;clear e1 e3;go_enter func209,ntmps209
 go_wp2_with fail
 go_ret2
 simp
theorem mul_one(c:Nat)(w:AI)(h:c<=100000):
  aag prog 150 #[.int .u64 1,.int .u64 c] w fun e w'=>e= .returned (.tuple #[.int .u64 0,.int .u64 c])/\w=w':=by
 have H:=sh fun W:AI=>Jc c W h;go_enter func150,ntmps150
 go_wp2_with (go_at_call 209;refine(H.out _).mono ?_;rintro e w' ⟨rfl,rfl⟩)
 go_ret2
 exact⟨rfl,rfl⟩
theorem vJ(B b n:Nat)(w:AI)(hB:B<=b)(aU:w.heap[b]? =some (.cells #[.pointer (some ⟨b,0,none⟩),.slice none 0 0] 300 (0,0)))(OQ:B<=w.heap.size)(hn:n<=100000):
  aag prog 279 #[.pointer (some ⟨b,0,none⟩),.int .i64 n] w fun e w'=>e= .returned (.tuple #[])/\(ags 300 5 B b (.pointer (some ⟨b,0,none⟩)) [] w'/\No B w w'):=by
 obtain⟨cs,cm,hle,afu⟩:=Lib.run_makeNoZero (P:=prog) w.drew #[3] 36 5 underlying36 n (by omega);have ZJ:(callFunc 293 #[.int .i64 (n:Int)]).run prog w.drew= .ok (.value (.slice (some ⟨w.drew.heap.size,0,none⟩) n cs.size)) (w.drew.drew.drew.alloc (.cells cs 5)):=by
  rw[agM func293 (by kernel_rfl) (by kernel_rfl) (by kernel_rfl) (e:=Extern.BytealgMakeNoZero.makeNoZero #[3] #[36]) (by kernel_rfl),cm];rfl
 have c1:w.drew.cell? ⟨b,1,none⟩=some (.slice none 0 0):=by
  have:w.drew.heap[b]? =_:=aU;rw[acy this];rfl
 have aI:b<w.heap.size:=adu aU;have c2:(w.alloc (.cells cs 5)).cell? ⟨b,1,none⟩=some (.slice none 0 0):=by
  have:(w.alloc (.cells cs 5)).heap[b]? =_:=(Lib.alloc_old w _ b aI).trans aU;rw[acy this];rfl
 have f2:(w.alloc (.cells cs 5)).frozen? ⟨b,1,none⟩=false:=agX ((Lib.alloc_old w _ b aI).trans aU) 1;have ahQ:∀W:AI,(Builtin.copy_ #[36,36] 3 #[.slice (some ⟨w.heap.size,0,none⟩) 0 cs.size,.slice none 0 0]).run prog W= .ok (goInt 0) W:=
  fun W=>run_copy_none W 36 36 3 5 _ _ 0 cs.size 0 0 underlying36 (by kernel_rfl) rfl
 have mU:=Lib.grown_fresh (T:=300) (e:=5) (cs:=cs) hB aU OQ (afu (by unfold abi;omega)) NX;have hsw:(w.alloc (.cells cs 5)).setCell ⟨b,1,none⟩ (.slice (some ⟨w.heap.size,0,none⟩) 0 cs.size)=(w.setCell ⟨b,1,none⟩ (.slice (some ⟨w.heap.size,0,none⟩) 0 cs.size)).alloc (.cells cs 5):=World.setCell_alloc_past _ _ _ _ aI;rw[hsw]at mU;clear hsw;go_enter func279,ntmps279
 go_wp2_with fail
 go_region
 all_goals (go_wp2_with fail;go_end0;exact⟨rfl,mU⟩)
theorem vI(B b n:Nat)(w:AI)(hB:B<=b)(aU:w.heap[b]? =some (.cells #[.pointer none,.slice none 0 0] 300 (0,0)))(OQ:B<=w.heap.size)(hn:n<=100000)(h1:1<=n):
  aag prog 260 #[.pointer (some ⟨b,0,none⟩),.int .i64 n] w fun e w'=>e= .returned (.tuple #[])/\(SB B b [] w'/\No B w w'):=by
 have As:(w.setCell ⟨b,0,none⟩ (.pointer (some ⟨b,0,none⟩))).heap[b]? =some (.cells #[.pointer (some ⟨b,0,none⟩),.slice none 0 0] 300 (0,0)):=by
  simp[aeH,Array.getElem?_modify,aU]
 have c1:(w.setCell ⟨b,0,none⟩ (.pointer (some ⟨b,0,none⟩))).cell? ⟨b,1,none⟩=some (.slice none 0 0):=by rw[acy As];rfl
 have ar:No B w (w.setCell ⟨b,0,none⟩ (.pointer (some ⟨b,0,none⟩))):=(IN B w).setCell (p:=⟨b,0,none⟩) hB _;have c1':(w.setCell ⟨b,0,none⟩ (.pointer (some ⟨b,0,none⟩))).drew.cell? ⟨b,1,none⟩=some (.slice none 0 0):=c1;have q1:decide ((n:Int)<0)=false:=by simp
 have q2:decide ((0:Int)<n)=true:=by simp;omega
 have HC:=sh (iI b w (by rw[acy aU];rfl) (by simp[aga,aU]) (agX aU 0));have HG:=sh (vJ B b n (w.setCell ⟨b,0,none⟩ (.pointer (some ⟨b,0,none⟩))).drew hB As (by simpa[aeH,World.drew,-World.drew_eq]using OQ) hn);have HB:=sh ar;clear aU As ar;go_enter func260,ntmps260
 go_wp2_with (go_at_call 244;refine HC.out.mono ?_;rintro e w' ⟨rfl,rfl⟩)
 go_region
 all_goals go_wp2_with (go_at_call 279;refine HG.out.mono ?_;rintro e w' ⟨rfl,h1,h2⟩)
 all_goals (go_end0;exact⟨rfl,Or.inr h1,HB.out.drew.trans h2⟩)
def bw (c:Nat):ByteArray:=⟨(abQ c (0:UInt8)).toArray⟩
theorem fI(c:Nat):(bw c).size=c:=by unfold bw;rw[cA,adU]
theorem fH(c:Nat):(bw c).data.toList=abQ c 0:=rfl
theorem BG(c k:Nat)(h:k<=c):(bw c).extract 0 k=bw k:=by
 apply jA;rw[cV,fH,fH];simp[List.take_replicate];omega
theorem run_min_int3{P:Program}{w:AI}(ts:Array TypeId)(t:TypeId)(k k' k'':IntKind)(x y z:Int):
  (Builtin.min_ ts t #[.int k x,.int k' y,.int k'' z]).run P w= .ok (.int k (if z<(if y<x then y else x)then z else (if y<x then y else x))) w:=by
 simp[Builtin.min_,Builtin.min2]
theorem EZ(c:Nat)(w:AI)(hc:c<=8000):
  aag prog 231 #[.string ⟨#[0]⟩,.int .i64 c] w (gP (bw c) w):=by
 by_cases h0:c=0
 ·subst h0
  go_enter func231,ntmps231
  go_wp2_with fail
  go_ret
  exact⟨rfl,IN _ _⟩
 by_cases h1:c=1
 ·subst h1
  go_enter func231,ntmps231
  go_wp2_with fail
  go_ret
  exact⟨rfl,IN _ _⟩
 have q0:((c:Int)==0)=false:=by simp;omega
 have q1:((c:Int)==1)=false:=by simp;omega
 have q2:decide ((c:Int)<0)=false:=by simp
 have q3:decide (9223372036854775807<(c:Int))=false:=by simp;omega
 have q4:decide (8192<(c:Int))=false:=by simp;omega
 have h2:2<=c:=by omega
 have HM:=sh fun W:AI=>mul_one c W (by omega);have HG:=sh (vI w.heap.size w.heap.size c (w.alloc (.cells #[.pointer none,.slice none 0 0] 300)) (AS _) (heap_alloc_new w _) (by simp) (by omega) (by omega));have eO:No w.heap.size w (w.alloc (.cells #[.pointer none,.slice none 0 0] 300)):=(IN _ _).alloc (AS _) _;have HW:=sh eO;clear h0 h1 eO;go_enter func231,ntmps231
 go_wp2_with (first
  | (go_at_call 150;refine(HM.out _).mono ?_;rintro e w' ⟨rfl,rfl⟩)
  | (go_at_call 260;refine HG.out.mono ?_;rintro e w1 ⟨rfl,pK,ar⟩;have YF:=sh pK;have bh:=sh (HW.out.trans ar);clear pK ar)
  | (go_at_call 204;refine(Cj w.heap.size _ [] ⟨#[0]⟩ w1 (Lib.IsBuilderF.of YF.out) (by decide) bh.out.size).mono ?_;rintro e w2 ⟨rfl,jw,az⟩;have bz:=sh (bh.out.trans az))
  | fail)
 have j9:=sh (show SF w.heap.size w.heap.size (abQ 1 0) w2 from jw);clear jw az;have nQ:∀(W:AI) (q:Nat),1<=q->q<c->(Builtin.min_ #[3,3,3] 3 #[.int .i64 ((c:Int)-q),.int .i64 (q:Int),.int .i64 (c:Int)]).run prog W= .ok (.int .i64 ((min (c-q) q:Nat):Int)) W:=by
  intro W q MD IP;rw[run_min_int3]
  congr 2
  split<;>split<;>omega
 have HMN:=sh nQ;clear nQ
 go_loopg [10] (c-1) (fun k _ wr=>∃q:Nat,1<=q/\q+k=c/\Hid (SF w.heap.size w.heap.size (abQ q 0) wr)/\Hid (No w.heap.size w wr))
 case atStart=>exact⟨1,AS _,by omega,j9.out,bz.out⟩
 case round=>
  obtain⟨q,MD,hqk,HS,HB⟩:=hrel;have bL:abQ q (0:UInt8)≠[]:=by
   intro h;have:=congrArg List.length h;simp at this;omega
  have hl:(abQ q (0:UInt8)).length=q:=adU;have HL:=sh (Ww _ _ _ wr HS.out);rw[hl]at HL;have j5:=sh (show aag prog 207 #[.pointer (some ⟨w.heap.size,0,none⟩)] wr fun e w'=>e= .returned (.string (bw q))/\(SF w.heap.size w.heap.size (abQ q 0) w'/\No w.heap.size wr w') from Jz _ _ _ wr HS.out bL);by_cases aI:q<c
  ·have nQ:=HMN.out wr q MD aI
   have og:min (c-q) q<=q:=by omega
   have yw:1<=min (c-q) q:=by omega
   have mF:q+min (c-q) q<=c:=by omega
   generalize min (c-q) q=m at *;have hex:=BG q m og;have VK:=fI q;have XR:=sh hex;have alI:q<=(bw q).size:=by omega
   have alJ:(bw q).size<=q:=by omega
   generalize bw q=nq at *;clear hl hex VK bL;go_wp2_with (first
    | (go_at_call 206;refine HL.out.mono ?_;rintro e w' ⟨rfl,rfl⟩)
    | (go_at_call 207;refine j5.out.mono ?_;rintro e w3 ⟨rfl,oo,aQ⟩)
    | fail)
   rw[XR.out];have yp:=HB.out.trans aQ;refine(Cj w.heap.size _ _ (bw m) w3 oo (by rw[adU,fI];omega) yp.size).mono ?_;rintro e w4 ⟨rfl,IU,b7⟩;rw[fH,List.replicate_append_replicate]at IU;have aeO:=yp.trans b7;clear oo aQ b7;go_wp2_with fail
   go_roundg (c-(q+m))
   case measure=>omega
   case rel=>exact⟨q+m,by omega,by omega,IU,aeO⟩
  ·obtain rfl:q=c:=by omega
   clear hl bL;go_wp2_with (first
    | (go_at_call 206;refine HL.out.mono ?_;rintro e w' ⟨rfl,rfl⟩)
    | (go_at_call 207;refine j5.out.mono ?_;rintro e w3 ⟨rfl,oo,aQ⟩)
    | fail)
   go_ret
   exact⟨rfl,HB.out.trans aQ⟩
def lays (l:List (Nat×Nat)):List UInt8:=l.flatMap fun p=>Be.low p.1 p.2
theorem I1(l:List (Nat×Nat))(p:Nat×Nat):lays (l++[p])=lays l++Be.low p.1 p.2:=by unfold lays;simp[List.flatMap_append]
theorem MY(l:List (Nat×Nat))(h:∀p∈l,p.2<=8):(lays l).length<=8*l.length:=by
 induction l with
 | nil=>simp[lays]
 | cons p l ih=>
  have h1:=h p (by simp);have h2:=ih (fun q hq=>h q (by simp[hq]));have e:lays (p::l)=Be.low p.1 p.2++lays l:=by unfold lays;simp
  rw[e,List.length_append,Be.aq,abB];omega
def pR (w:AI) (g:Nat) (l:List (Nat×Nat)):Prop:=
 g<w.heap.size/\∀i (h:i<l.length),w.cell? ⟨g,i*2,none⟩=some (.int .i64 (l[i].1:Nat))/\w.cell? ⟨g,i*2+1,none⟩=some (.int .i64 (l[i].2:Nat))
def Fits (l:List (Nat×Nat)):Prop:=∀p∈l,1<=p.2/\p.2<=8/\p.1<256 ^ p.2/\p.1<281474976710656
theorem pR.below{w w':AI}{g:Nat}{l:List (Nat×Nat)}(h:pR w g l)(hb:No w.heap.size w w'):pR w' g l:=
 ⟨Nat.lt_of_lt_of_le h.1 hb.size,fun i hi=>⟨(hb.cell (p:=⟨g,i*2,none⟩) h.1).trans (h.2 i hi).1,(hb.cell (p:=⟨g,i*2+1,none⟩) h.1).trans (h.2 i hi).2⟩⟩
theorem sz(s:ByteArray)(g m:Nat)(l:List (Nat×Nat))(w:AI)(hm:m=l.length)(hl:l.length<=100)(hs:s.size<=10000)(hg:pR w g l)(hf:Fits l):
  aag prog 175 #[.string s,.slice (some ⟨g,0,none⟩) m m] w (gP (s++⟨(lays l).toArray⟩) w):=by
 subst hm;have HG:=sh hg;have HF:=sh hf;clear hg hf;go_enter func175,ntmps175
 go_wp2_with fail
 go_loopw [0,9] (fun x i wr=>∃(j:Nat),i= .int .i64 j/\x= .string (s++⟨(lays (l.take j)).toArray⟩)/\j<=l.length/\Hid (No w.heap.size w wr)) (fun _ i _=>l.length-(intOf i).toNat)
 case atStart=>exact⟨0,rfl,by congr 1;apply jA;rw[aS];simp[lays],abc _,IN _ _⟩
 case round=>
  obtain⟨j,rfl,rfl,hj,HB⟩:=hrel;by_cases aI:j<l.length
  ·obtain⟨c1,c2⟩:=(HG.out.below HB.out).2 j aI
   have pH:=(HG.out.below HB.out).1;obtain⟨f1,f2,f3,f4⟩:=HF.out l[j] (abw aI);have cZ:(s++⟨(lays (l.take j)).toArray⟩:ByteArray).size<=20000:=by
    have:=MY (l.take j) (fun p hp=>(HF.out p (List.mem_of_mem_take hp)).2.1);rw[List.length_take]at this;have e:=cA (lays (l.take j));rw[acj];omega
   have HT:=sh (show (s++⟨(lays (l.take j)).toArray⟩++⟨(Be.low l[j].1 l[j].2).toArray⟩:ByteArray)=s++⟨(lays (l.take (j+1))).toArray⟩by
    apply jA;rw[aaT aI,I1,aS,aS,aS];simp)
   have HP:=sh fun W:AI=>gR (s++⟨(lays (l.take j)).toArray⟩) l[j].1 l[j].2 W (by omega) f1 f2 f3;generalize (s++⟨(lays (l.take j)).toArray⟩:ByteArray)=sx at *;generalize l[j].1=n at *;generalize l[j].2=k at *;have QV:=HB.out.size;clear f3;go_wp2_with (first
    | (go_at_call 160;refine(HP.out _).mono ?_;rintro e w2 ⟨rfl,az⟩)
    | fail)
   have aQ:No w.heap.size w w2:=(HB.out.alloc QV _).trans (az.mono (by simp;omega));go_roundw
   case rel=>exact⟨j+1,by go_num,by rw[HT.out],by omega,aQ⟩
   case measure=>simp[intOf];omega
  ·have HT:=sh (show l.take j=l from abI (by omega))
   go_wp2_with fail
   go_ret
   exact mQ (by rw[HT.out]) HB.out
theorem td(s:ByteArray)(m:Nat)(w:AI)(hs:s.size<=m)(hm:m<=8000):
  aag prog 176 #[.string s,.int .i64 m] w (gP (s++bw (m-s.size)) w):=by
 have HR:=sh fun W:AI=>EZ (m-s.size) W (by omega);have e:(m:Int)-s.size=((m-s.size:Nat):Int):=by omega
 have hz:(bw (m-s.size)).size<=8000:=by rw[fI];omega
 generalize m-s.size=c at *;generalize bw c=nc at *;go_enter func176,ntmps176
 go_wp2_with (first
  | (go_at_call 231;refine(HR.out _).mono ?_;rintro e w2 ⟨rfl,az⟩)
  | fail)
 go_ret
 exact⟨rfl,az⟩
def dF (q:Int) (w:AI) (e:Ending) (w':AI):Prop:=e= .returned (.int .i64 q)/\No w.heap.size w w'
theorem at_any(s:ByteArray)(p k:Nat)(w:AI)(hs:s.size<=1000000)(h1:1<=k)(h8:k<=8)(hp:p+k<=s.size):
  aag prog 211 #[.string s,.int .i64 p,.int .i64 k] w (dF (wrap64 (ai s p k)) w):=by
 have HT:=sh fun W:AI=>fK s p k W hs h1 h8 hp;generalize ai s p k=n at *;go_enter func211,ntmps211
 go_wp2_with (first
  | (go_at_call 120;refine(HT.out _).mono ?_;rintro e w2 ⟨rfl,az⟩)
  | fail)
 go_ret
 exact⟨rfl,az⟩
end Go.Proofs.YtjbcbnemdhbhbaaGreatDoor
namespace Go.Proofs.YtjbcbnemdhbhbaaGreatDoor
open Go.Proofs.Tryz
open Go.RowKit
theorem fs{q q':Int}{w w':AI}(h:q=q')(hb:No w.heap.size w w'):dF q w (.returned (.int .i64 q')) w':=by subst h;exact⟨rfl,hb⟩
theorem aV.at{w:AI}{S:Nat->Prop}{r:Rw}{l:List Ce}(h:aV w S r l)(i:Nat)(hi:i<l.length):∃b o,r.A=some ⟨b,o,none⟩/\(S b/\b<w.heap.size)/\w.cell? ⟨b,o+i*5,none⟩=some (.string l[i].key)/\
  w.cell? ⟨b,o+i*5+1,none⟩=some (.string l[i].val)/\w.cell? ⟨b,o+i*5+2,none⟩=some (.int .i64 l[i].over)/\w.cell? ⟨b,o+i*5+3,none⟩=some (.int .i64 l[i].size)/\w.cell? ⟨b,o+i*5+4,none⟩=some (.int .i64 l[i].child):=by
 obtain⟨h1,h2,h3,h4⟩:=h;obtain⟨b,o,c,q1,q2,q3,q4,q5⟩:=h4 i l[i] (List.getElem?_eq_getElem hi);unfold GX at q5;subst q5;exact⟨b,o,q1,q2,q4 0 _ rfl,q4 1 _ rfl,q4 2 _ rfl,q4 3 _ rfl,q4 4 _ rfl⟩
theorem aV.keep{w w':AI}{S T:Nat->Prop}{r:Rw}{l:List Ce}(h:aV w S r l)(hs:w.heap.size<=w'.heap.size)(hk:∀b,S b->b<w.heap.size->w'.heap[b]? =w.heap[b]?)(hT:∀b,S b->b<w.heap.size->T b):aV w' T r l:=
 fR.keep lC h hs hk hT
theorem aV.below{w w':AI}{S:Nat->Prop}{r:Rw}{l:List Ce}(h:aV w S r l)(hb:No w.heap.size w w'):aV w' S r l:=
 h.keep hb.size (fun b _ aI=>hb.block b aI) (fun _ h _=>h)
theorem mO{s:ByteArray}(h:s.size=0):s=⟨#[]⟩:=by
 obtain⟨⟨l⟩⟩:=s;have:l.length=0:=h;obtain rfl:=List.eq_nil_of_length_eq_zero this;rfl
theorem Od{s:ByteArray}(h:0<s.size):s.toList.isEmpty=false:=by
 rw[ByteArray.toList_eq];have:s.data.toList.length=s.size:=rfl;cases hl:s.data.toList with
 | nil=>rw[hl]at this;simp at this;omega
 | cons _ _=>rfl
theorem vF(c:Ce)(w:AI)(h:Nd.aY c=true):aag prog 287 #[.agg #[.string c.key,.string c.val,.int .i64 c.over,.int .i64 c.size,.int .i64 c.child]] w (gb true w):=by
 obtain⟨key,val,over,size,child⟩:=c;unfold Nd.aY at h;simp only[abM,decide_eq_true_eq,beq_iff_eq]at h;obtain⟨⟨⟨h1,h2⟩,rfl⟩,h4⟩:=h;have k1:=Od h1;have k2:decide ((120:Int)<(key.size:Int))=false:=decide_eq_false (by omega);by_cases ho:over=0
 ·rw[if_pos ho]at h4
  simp only[abM,decide_eq_true_eq,beq_iff_eq]at h4;obtain⟨rfl,h5⟩:=h4;subst ho;have k3:decide ((val.size:Int)<=96)=true:=decide_eq_true (by omega);clear h1 h2 h5;go_enter func287,ntmps287
  go_wp2_with fail
  go_ret
  exact dZ rfl ((IN _ w).alloc (AS _) _)
 ·rw[if_neg ho]at h4
  simp only[abM,decide_eq_true_eq,beq_iff_eq]at h4;obtain⟨⟨⟨h5,h6⟩,h7⟩,h8⟩:=h4;have hv:=mO h5;subst hv;have k3:((over:Int)==0)=false:=by rw[beq_eq_false_iff_ne];omega
  have k3':(over==0)=false:=by rw[beq_eq_false_iff_ne];omega
  have k4:decide ((1:Int)<=(over:Int))=true:=decide_eq_true (by omega);have k5:decide ((over:Int)<512)=true:=decide_eq_true (by omega);have k6:decide ((96:Int)<(size:Int))=true:=decide_eq_true (by omega);have k7:decide ((size:Int)<=4000)=true:=decide_eq_true (by omega);clear h1 h2 h5 h6 h7 h8 ho;go_enter func287,ntmps287
  go_wp2_with fail
  go_ret
  exact dZ rfl ((IN _ w).alloc (AS _) _)
theorem r9(c:Ce)(w:AI)(h:Nd.cy c=true):aag prog 286 #[.agg #[.string c.key,.string c.val,.int .i64 c.over,.int .i64 c.size,.int .i64 c.child]] w (gb true w):=by
 obtain⟨key,val,over,size,child⟩:=c;unfold Nd.cy at h;simp only[abM,decide_eq_true_eq,beq_iff_eq]at h;obtain⟨⟨⟨⟨⟨h1,h2⟩,h3⟩,h4⟩,rfl⟩,rfl⟩:=h;have hv:=mO h4;subst hv;have k1:decide ((key.size:Int)<=120)=true:=decide_eq_true (by omega);have k2:decide ((1:Int)<=(child:Int))=true:=decide_eq_true (by omega);have k3:decide ((child:Int)<512)=true:=decide_eq_true (by omega);clear h1 h2 h3 h4;go_enter func286,ntmps286
 go_wp2_with fail
 go_ret
 exact dZ rfl ((IN _ w).alloc (AS _) _)
def Hd (w:AI) (e:Ending) (w':AI):Prop:=No w.heap.size w w'/\∃q:Bool,e= .returned (.bool q)
theorem qx(c:Ce)(w:AI):aag prog 286 #[.agg #[.string c.key,.string c.val,.int .i64 c.over,.int .i64 c.size,.int .i64 c.child]] w (Hd w):=by
 obtain⟨key,val,over,size,child⟩:=c;go_enter func286,ntmps286
 go_wp2_with fail
 all_goals
  go_ret
  exact⟨(IN _ w).alloc (AS _) _,_,rfl⟩
theorem Ck(leaf:Bool)(c:Ce)(w:AI)(hk:c.key.size<=1000000)(hv:c.val.size<=1000000):aag prog 255 #[.bool leaf,.agg #[.string c.key,.string c.val,.int .i64 c.over,.int .i64 c.size,.int .i64 c.child]] w (dF (Nd.size leaf c) w):=by
 obtain⟨key,val,over,size,child⟩:=c;simp only at hk hv;obtain⟨n,hn⟩:∃n:Int,n=(Nd.size leaf ⟨key,val,over,size,child⟩:Nat):=⟨_,rfl⟩;rw[<-hn];cases leaf with
 | false=>
  have HN:=sh (show n=4+(key.size:Int)+4 by rw[hn];unfold Nd.size;simp);clear hn;go_enter func255,ntmps255
  go_wp2_with fail
  go_ret
  exact fs HN.out ((IN _ w).alloc (AS _) _)
 | true=>
  by_cases ho:0<over
  ·have k1:decide ((0:Int)<(over:Int))=true:=decide_eq_true (by omega)
   have k2:decide (0<over)=true:=decide_eq_true ho;have HN:=sh (show n=4+(key.size:Int)+9 by rw[hn];unfold Nd.size;simp[ho]);clear hn ho;go_enter func255,ntmps255
   go_wp2_with fail
   go_ret
   exact fs HN.out ((IN _ w).alloc (AS _) _)
  ·have k1:decide ((0:Int)<(over:Int))=false:=decide_eq_false (by omega)
   have k2:decide (0<over)=false:=decide_eq_false ho;have HN:=sh (show n=4+(key.size:Int)+3+(val.size:Int)by rw[hn];unfold Nd.size;simp[ho]);clear hn ho;go_enter func255,ntmps255
   go_wp2_with fail
   go_ret
   exact fs HN.out ((IN _ w).alloc (AS _) _)
theorem wrap_u64(n:Nat)(h:n<18446744073709551616):IntKind.u64.wrap (n:Int)=(n:Int):=IntWalk.u64_in _ (by omega)
theorem wrap_i64(n:Nat)(h:n<9223372036854775808):IntKind.i64.wrap (n:Int)=(n:Int):=IntWalk.i64_in _ (by omega)
theorem yV(s t:ByteArray)(w:AI)(hs:s.size<=1000000)(ht:t.size<=65535):
  aag prog 288 #[.string s,.string t] w (cU (s++⟨(Be.low t.size 2).toArray⟩++t) 0 w):=by
 have H:=sh fun(W:AI)=>gR s t.size 2 W hs (by omega) (by omega) (by omega);have k1:decide ((65535:Int)<(t.size:Int))=false:=decide_eq_false (by omega);have hw:=wrap_u64 t.size (by omega);obtain⟨r,hr⟩:∃r,r=s++⟨(Be.low t.size 2).toArray⟩:=⟨_,rfl⟩;rw[<-hr]at H |-;have hrs:r.size<=1000002:=by
  have h2:=cA (Be.low t.size 2);rw[Be.aq]at h2;rw[hr,acj,h2];omega
 clear hr;go_enter func288,ntmps288
 go_wp2_with (first
  | (go_at_call 160;go_must (refine(H.out _).mono ?_);rintro e w1 ⟨rfl,ar⟩)
  | fail)
 go_ret2
 exact⟨rfl,ar⟩
theorem me(s:ByteArray)(p n:Nat)(w:AI)(hs:s.size<=1000000)(hp:p+2+n<=s.size)(hn:ai s p 2=n):
  aag prog 280 #[.string s,.int .i64 p] w (fun e w'=>e= .returned (.tuple #[.string (s.extract (p+2) (p+2+n)),.int .i64 ((p:Int)+2+n),.int .i64 0])/\No w.heap.size w w'):=by
 have H:=sh fun(W:AI)=>(show aag prog 120 #[.string s,.int .i64 p,.int .i64 2] W (fB n W)by rw[<-hn];exact fK s p 2 W hs (by omega) (by omega) (by omega));have hw:=wrap_u64 (s.size-p-2) (by omega);have he:((s.size-p-2:Nat):Int)=(s.size:Int)-(p:Int)-2:=by omega
 rw[he]at hw;have k1:decide ((s.size:Int)-(p:Int)-2<(n:Int))=false:=decide_eq_false (by omega);have QU:=wrap_i64 n (by omega);clear hn he;go_enter func280,ntmps280
 go_wp2_with (first
  | (go_at_call 120;go_must (refine(H.out _).mono ?_);rintro e w1 ⟨rfl,ar⟩)
  | fail)
 go_ret3
 exact⟨rfl,ar⟩
def Small (l:List Ce):Prop:=l.length<=10000/\∀c∈l,c.key.size<=1000/\c.val.size<=1000
theorem uu(leaf:Bool){c:Ce}(h:c.key.size<=1000/\c.val.size<=1000):Nd.size leaf c<=2007:=by
 unfold Nd.size;repeat' split
 all_goals omega
theorem JI(leaf:Bool){l:List Ce}(h:∀c∈l,c.key.size<=1000/\c.val.size<=1000):(l.map (Nd.size leaf)).sum<=2007*l.length:=by
 induction l with
 | nil=>simp
 | cons c l ih=>
  have h1:=uu leaf (h c (by simp));have h2:=ih fun x hx=>h x (by simp[hx]);rw[List.map_cons,List.sum_cons,abB];omega
theorem tY(leaf:Bool)(r:Rw)(l:List Ce)(S:Nat->Prop)(w:AI)(h:aV w S r l)(hl:Small l):
  aag prog 254 #[.bool leaf,.slice r.A r.n r.c] w (dF (Nd.sum leaf l) w):=by
 obtain⟨A,n,cap⟩:=r;have hr:=h;obtain⟨h1,h2,h3,-⟩:=hr;simp only at h1 h2 h3 |-;subst h1;obtain⟨N,hN⟩:∃N:Int,N=(Nd.sum leaf l:Nat):=⟨_,rfl⟩;rw[<-hN];have HN:=sh hN;have HR:=sh h;have HL:=sh hl;have CW:=hl.1;have dC:cap<=9223372036854775807:=by unfold abi at h3;omega
 clear h hN h3 hl;go_enter func254,ntmps254
 go_wp2_with fail
 go_loopw [5,10] (fun u i wr=>∃(j y:Nat),i= .int .i64 j/\u= .int .i64 y/\j<=l.length/\y<=2+2007*j/\Hid (y=2+((l.take j).map (Nd.size leaf)).sum)/\No w.heap.size w wr) (fun _ i _=>l.length-(intOf i).toNat)
 case atStart=>exact⟨0,2,rfl,rfl,abc _,by omega,sh (by simp),IN _ _⟩
 case round=>
  obtain⟨j,y,rfl,rfl,hj,hy,HY,eO⟩:=hrel;have fO:=sh eO;by_cases aI:j<l.length
  ·have z1:decide ((j:Int)<(l.length:Int))=true:=decide_eq_true (by omega)
   obtain⟨b,o,hA,hS,q0,q1,q2,q3,q4⟩:=(HR.out.below eO).at j aI;simp only at hA;subst hA;have gH:=hS.2;have hm:=HL.out.2 _ (abw aI);have cZ:=uu leaf hm;have HC:=sh fun(W:AI)=>Ck leaf l[j] W (by omega) (by omega);have HT:=sh (show ((l.take (j+1)).map (Nd.size leaf)).sum=((l.take j).map (Nd.size leaf)).sum+Nd.size leaf l[j]by rw[aaT aI,List.map_append,List.sum_append];simp);obtain⟨z,hz⟩:∃z,z=Nd.size leaf l[j]:=⟨_,rfl⟩;rw[<-hz]at HC HT cZ;obtain⟨x,hx⟩:∃x,x=l[j]:=⟨_,rfl⟩;rw[<-hx]at HC q0 q1 q2 q3 q4;clear hS hm hz hx eO;go_wp2_with (first
    | (go_at_call 255;go_must (refine(HC.out _).mono ?_);rintro e w2 ⟨rfl,az⟩;have bz:=sh ((fO.out.alloc fO.out.size (.cells #[.string x.key,.string x.val,.int .i64 x.over,.int .i64 x.size,.int .i64 x.child] 170)).trans (az.mono (by have:=fO.out.size;simp;omega)));clear az)
    | fail)
   go_roundw
   case rel=>first|exact⟨j+1,y+z,by go_num,by go_num,by omega,by omega,sh (by rw[HT.out,HY.out];omega),bz.out⟩|((repeat apply Exists.intro);exact⟨⟨j+1,y+z,by go_num,by go_num,by omega,by omega,sh (by rw[HT.out,HY.out];omega),bz.out⟩,rfl⟩)
   case measure=>simp[intOf];omega
  ·have z1:decide ((j:Int)<(l.length:Int))=false:=decide_eq_false (by omega)
   have HV:=sh (show N=(y:Int)by rw[HN.out,HY.out,abI (by omega)];rfl);clear eO;go_wp2_with fail
   go_ret
   exact fs HV.out fO.out
theorem below_drewN{B:Nat}{w w':AI}(h:No B w w')(n:Nat):No B w (w'.drewN n):=⟨h.os,h.tape,h.output,h.size,h.block⟩
theorem bN{w w2:AI}{t:TypeId}{v0 v1 v2 v3 v4:IS}(hb:No (w.alloc (.cells #[v0,v1,v2,v3,v4] t)).heap.size (w.alloc (.cells #[v0,v1,v2,v3,v4] t)) w2):
  w2.cell? ⟨w.heap.size,0,none⟩=some v0/\w2.cell? ⟨w.heap.size,1,none⟩=some v1/\w2.cell? ⟨w.heap.size,2,none⟩=some v2/\w2.cell? ⟨w.heap.size,3,none⟩=some v3/\w2.cell? ⟨w.heap.size,4,none⟩=some v4/\
   w.heap.size<w2.heap.size/\No w.heap.size w w2/\Bk w2 w.heap.size t #[v0,v1,v2,v3,v4]:=by
 have h:=af (Bk.new w t #[v0,v1,v2,v3,v4]) hb;exact⟨h.cell 0,h.cell 1,h.cell 2,h.cell 3,h.cell 4,h.lt,((IN _ w).alloc (AS _) _).trans (hb.mono (by simp)),h⟩
theorem xj(leaf:Bool)(r:Rw)(l:List Ce)(S:Nat->Prop)(w:AI)(h:aV w S r l)(hl:l.length<=10000)(hr:Nd.right leaf l=true):
  aag prog 268 #[.bool leaf,.slice r.A r.n r.c] w (gb true w):=by
 obtain⟨A,n,cap⟩:=r;have gr:=h;obtain⟨h1,h2,h3,-⟩:=gr;simp only at h1 h2 h3 |-;subst h1;have HR:=sh h;have dC:cap<=9223372036854775807:=by unfold abi at h3;omega
 unfold Nd.right at hr;simp only[abM,Bool.or_eq_true]at hr;obtain⟨yr,eF,kM⟩:=hr;have HA:=sh eF;have HI:=sh kM;clear h3 eF kM;cases leaf with
 | true=>
  clear yr h;go_enter func268,ntmps268
  go_wp2_with fail
  go_loopw [24] (fun i wr=>∃(j:Nat),i= .int .i64 j/\j<=l.length/\No w.heap.size w wr) (fun i _=>l.length-(intOf i).toNat)
  case atStart=>exact⟨0,rfl,abc _,IN _ _⟩
  case round=>
   obtain⟨j,rfl,hj,eO⟩:=hrel;have fO:=sh eO;by_cases aI:j<l.length
   ·have z1:decide ((j:Int)<(l.length:Int))=true:=decide_eq_true (by omega)
    obtain⟨b,o,hA,hS,q0,q1,q2,q3,q4⟩:=(HR.out.below eO).at j aI;simp only at hA;subst hA;have gH:=hS.2;have HC:=sh fun(W:AI)=>qx l[j] W;have HD:=sh fun(W:AI)=>vF l[j] W (by have:=aeo.1 HA.out _ (abw aI);exact this);obtain⟨x,hx⟩:∃x,x=l[j]:=⟨_,rfl⟩;have HX:=sh hx;rw[<-hx]at HC HD q0 q1 q2 q3 q4;clear hS hx eO;go_wp2_with fail
    (go_at_call 286)
    refine(HC.out _).mono ?_;rintro e w2 ⟨az,q,rfl⟩;obtain⟨p0,p1,p2,p3,p4,l2,jv,-⟩:=bN az;have fY:=sh (fO.out.trans (jv.mono fO.out.size));clear jv;go_wp2_with fail
    (go_at_call 287)
    refine(HD.out _).mono ?_;rintro e w3 ⟨rfl,aQ⟩;have dx:=af (bN az).2.2.2.2.2.2.2 aQ;have s0:w3.cell? ⟨wr.heap.size,0,none⟩=some (.string x.key):=dx.cell 0;have l3:=dx.lt;have dN:=sh (fY.out.trans (aQ.mono fY.out.size));clear az aQ dx p0 p1 p2 p3 p4 q0 q1 q2 q3 q4;by_cases ID:j=0
    ·subst ID
     have z2:decide ((0:Int)<((0:Nat):Int))=false:=decide_eq_false (by omega);go_wp2_with fail
     go_quiet (fail)
     go_wp2_with fail
     go_roundw
     case rel=>exact⟨1,rfl,by omega,below_drewN dN.out _⟩
     case measure=>simp[intOf];omega
    ·obtain⟨i,rfl⟩:∃i,j=i+1:=⟨j-1,by omega⟩
     obtain⟨b',o',hA,hS,r0,-⟩:=(HR.out.below dN.out).at i (by omega);simp only at hA;obtain⟨rfl,rfl⟩:b=b'/\o=o':=by injection hA with hA;injection hA with h1 h2;exact⟨h1,h2⟩
     have yp:=hS.2;have lN:=Nd.sB HI.out i aI;rw[<-HX.out]at lN;obtain⟨y,hy⟩:∃y,y=l[i]:=⟨_,rfl⟩;rw[<-hy]at r0 lN;have t1:acm x.key.toList y.key.toList=false:=Nd.lt_asymm lN;have t2:=(Nd.BB lN).2;have Gn:IntKind.i64.wrap (((i+1:Nat):Int)-1)=(i:Int):=by rw[show (((i+1:Nat):Int)-1)=(i:Int)by omega];exact wrap_i64 i (by omega)
     have z2:decide ((0:Int)<((i+1:Nat):Int))=true:=decide_eq_true (by omega);clear hA hS hy lN;go_wp2_with fail
     go_quiet (fail)
     go_wp2_with fail
     go_roundw
     case rel=>exact⟨i+1+1,by go_num,by omega,below_drewN dN.out _⟩
     case measure=>simp[intOf];omega
   ·have z1:decide ((j:Int)<(l.length:Int))=false:=decide_eq_false (by omega)
    clear eO;go_wp2_with fail
    go_ret
    exact dZ rfl fO.out
 | false=>
  obtain⟨c0,ls,rfl⟩:∃c0 ls,l=c0::ls:=by
   cases l with
   | nil=>simp at yr
   | cons a b=>exact⟨a,b,rfl⟩
  have oe:c0.key=⟨#[]⟩:=mO (by simpa using yr);have y1:(((c0::ls).length:Int)==0)=false:=by rw[beq_eq_false_iff_ne,abB];omega
  have y2:((c0::ls).length==0)=false:=by simp
  have y3:decide ((0:Int)<((c0::ls).length:Int))=true:=decide_eq_true (by rw[abB];omega);obtain⟨b0,o0,Y6,hS0,e0,-⟩:=h.at 0 (by simp);simp only at Y6;have e0':w.cell? ⟨b0,o0,none⟩=some (.string ⟨#[]⟩):=by have:=e0;simp only[Nat.zero_mul,Nat.add_zero,List.getElem_cons_zero]at this;rw[this,oe]
  subst Y6;have O0:=hS0.2;obtain⟨l,QA⟩:∃l,l=c0::ls:=⟨_,rfl⟩;rw[<-QA]at HR HA HI hl h2 y1 y2 y3 |-;have y4:0<l.length:=by rw[QA];simp
  clear yr hS0 e0 oe QA h;go_enter func268,ntmps268
  go_wp2_with fail
  go_loopw [24] (fun i wr=>∃(j:Nat),i= .int .i64 j/\j<=l.length/\No w.heap.size w wr) (fun i _=>l.length-(intOf i).toNat)
  case atStart=>exact⟨0,rfl,abc _,IN _ _⟩
  case round=>
   obtain⟨j,rfl,hj,eO⟩:=hrel;have fO:=sh eO;by_cases aI:j<l.length
   ·have z1:decide ((j:Int)<(l.length:Int))=true:=decide_eq_true (by omega)
    obtain⟨b,o,hA,hS,q0,q1,q2,q3,q4⟩:=(HR.out.below eO).at j aI;simp only at hA;obtain⟨rfl,rfl⟩:b0=b/\o0=o:=by injection hA with hA;injection hA with h1 h2;exact⟨h1,h2⟩
    clear hA;have gH:=hS.2;have HC:=sh fun(W:AI)=>r9 l[j] W (by have:=aeo.1 HA.out _ (abw aI);exact this);obtain⟨x,hx⟩:∃x,x=l[j]:=⟨_,rfl⟩;have HX:=sh hx;rw[<-hx]at HC q0 q1 q2 q3 q4;clear hS hx eO;go_wp2_with fail
    (go_at_call 286)
    refine(HC.out _).mono ?_;rintro e w3 ⟨rfl,aQ⟩;obtain⟨-,-,-,-,-,-,Tb,dx⟩:=bN aQ;have s0:w3.cell? ⟨wr.heap.size,0,none⟩=some (.string x.key):=dx.cell 0;have l3:=dx.lt;have dN:=sh (fO.out.trans (Tb.mono fO.out.size));clear aQ dx Tb q0 q1 q2 q3 q4;by_cases ID:j=0
    ·subst ID
     have z2:decide ((0:Int)<((0:Nat):Int))=false:=decide_eq_false (by omega);go_wp2_with fail
     go_quiet (fail)
     go_wp2_with fail
     go_roundw
     case rel=>exact⟨1,rfl,by omega,below_drewN dN.out _⟩
     case measure=>simp[intOf];omega
    ·obtain⟨i,rfl⟩:∃i,j=i+1:=⟨j-1,by omega⟩
     obtain⟨b',o',hA,hS,r0,-⟩:=(HR.out.below dN.out).at i (by omega);simp only at hA;obtain⟨rfl,rfl⟩:b0=b'/\o0=o':=by injection hA with hA;injection hA with h1 h2;exact⟨h1,h2⟩
     have yp:=hS.2;have lN:=Nd.sB HI.out i aI;rw[<-HX.out]at lN;obtain⟨y,hy⟩:∃y,y=l[i]:=⟨_,rfl⟩;rw[<-hy]at r0 lN;have t1:acm x.key.toList y.key.toList=false:=Nd.lt_asymm lN;have t2:=(Nd.BB lN).2;have Gn:IntKind.i64.wrap (((i+1:Nat):Int)-1)=(i:Int):=by rw[show (((i+1:Nat):Int)-1)=(i:Int)by omega];exact wrap_i64 i (by omega)
     have z2:decide ((0:Int)<((i+1:Nat):Int))=true:=decide_eq_true (by omega);clear hA hS hy lN;go_wp2_with fail
     go_quiet (fail)
     go_wp2_with fail
     go_roundw
     case rel=>exact⟨i+1+1,by go_num,by omega,below_drewN dN.out _⟩
     case measure=>simp[intOf];omega
   ·have z1:decide ((j:Int)<(l.length:Int))=false:=decide_eq_false (by omega)
    clear eO;go_wp2_with fail
    go_ret
    exact dZ rfl fO.out
end Go.Proofs.YtjbcbnemdhbhbaaGreatDoor
