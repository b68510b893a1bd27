import Derived.Test.YtjbcbnemdhbhbaaGreatDoorB1
import Derived.Laws.BitsAllLaws
import Derived.Test.YtjbcbnemdhbhbaaGreatDoorRows
import Derived.Test.YtjbcbnemdhbhbaaGreatDoorTie
import Derived.ProofKit
import Derived.LaidMore
import Derived.Lay
import Derived.MakeChecks
import Derived.OpenShut
import Derived.ShutString
import Derived.ChangeOld
import Derived.Stop.Joined
import Derived.Lib.SmallJoins
import Derived.PlainAid
import Derived.Test.YtjbcbnemdhbhbaaGreatDoorB2
set_option maxRecDepth 100000
set_option linter.unusedVariables false
set_option linter.unusedSimpArgs false
set_option maxHeartbeats 40000000
open Bool renaming and_eq_true→abM
open ByteArray renaming empty→aca,size_append→acj
open Go renaming Calls→aag,World→AI,maxLen→abi
open Go.Lib renaming hid→sh
open Go.RowKit.Below renaming refl→IN
open Int renaming eq_ofNat_of_zero_le→ach,le_refl→afX
open List renaming append_assoc→OF,getElem?_eq_getElem→aaG,length_append→BY,mem_map→abO,range→afv,replicate→abQ
open Nat renaming le_refl→AS,mod_two_eq_zero_or_one→aeT,mul_div_cancel_left→afJ,xor_lt_two_pow→agc
open Option.some renaming inj→adW
namespace Go.Proofs.YtjbcbnemdhbhbaaGreatDoor
open Go.Proofs.Tryz
namespace Crc
def bit (r:Nat):Nat:=r/2 ^^^ (if r%2=1 then 3988292384 else 0)
def YZ (r:Nat):Nat:=bit (bit (bit (bit (bit (bit (bit (bit r)))))))
def UL (r:Nat) (c:UInt8):Nat:=YZ (r ^^^ c.toNat)
def Js (r:Nat) (l:List UInt8):Nat:=l.foldl UL r
def on (s:Nat) (l:List UInt8):Nat:=4294967295-Js (4294967295-s) l
def sum (l:List UInt8):Nat:=on 0 l
def row:List Nat:=[0x00000000,0x1db71064,0x3b6e20c8,0x26d930ac,0x76dc4190,0x6b6b51f4,0x4db26158,0x5005713c,0xedb88320,0xf00f9344,0xd6d6a3e8,0xcb61b38c,0x9b64c2b0,0x86d3d2d4,0xa00ae278,0xbdbdf21c]
def Pc (r:Nat):Nat:=r/16 ^^^ row.getD (r%16) 0
theorem lH(a b:Nat):(a ^^^ b)/2=a/2 ^^^ b/2:=by
 have h:=Nat.shiftRight_xor_distrib (a:=a) (b:=b) (i:=1);simpa[Nat.shiftRight_eq_div_pow]using h
theorem o6(a b:Nat):(a ^^^ b)%2=(a%2+b%2)%2:=by
 have h:=Nat.xor_mod_two_pow (a:=a) (b:=b) (n:=1);simp at h;rw[h];rcases aeT a with ha|ha<;>rcases aeT b with hb|hb<;>rw[ha,hb]<;>rfl
theorem agr(a b c d:Nat):(a ^^^ b) ^^^ (c ^^^ d)=(a ^^^ c) ^^^ (b ^^^ d):=by
 rw[Nat.xor_assoc,<-Nat.xor_assoc b c d,Nat.xor_comm b c,Nat.xor_assoc c b d,<-Nat.xor_assoc]
theorem PT(a b:Nat):bit (a ^^^ b)=bit a ^^^ bit b:=by
 unfold bit;rw[lH,o6,agr]
 congr 1
 rcases aeT a with ha|ha<;>rcases aeT b with hb|hb<;>simp[ha,hb]
theorem Lp(q:Nat):bit (2*q)=q:=by
 unfold bit;rw[if_neg (by omega),Nat.xor_zero];omega
theorem Lo:∀a:Fin 16,bit (bit (bit (bit a.val)))=row.getD a.val 0:=by decide
theorem RJ(r:Nat):r=2*(2*(2*(2*(r/16)))) ^^^ r%16:=by
 obtain⟨x,hx⟩:∃x,x=2*(2*(2*(2*(r/16)))) ^^^ r%16:=⟨_,rfl⟩;rw[<-hx];have m0:=o6 (2*(2*(2*(2*(r/16))))) (r%16);have h1:=lH (2*(2*(2*(2*(r/16))))) (r%16);rw[<-hx]at m0 h1;rw[afJ _ (by decide:0<2)]at h1;have m1:=o6 (2*(2*(2*(r/16)))) (r%16/2);have h2:=lH (2*(2*(2*(r/16)))) (r%16/2);rw[<-h1]at m1 h2;rw[afJ _ (by decide:0<2)]at h2;have m2:=o6 (2*(2*(r/16))) (r%16/2/2);have h3:=lH (2*(2*(r/16))) (r%16/2/2);rw[<-h2]at m2 h3;rw[afJ _ (by decide:0<2)]at h3;have m3:=o6 (2*(r/16)) (r%16/2/2/2);have h4:=lH (2*(r/16)) (r%16/2/2/2);rw[<-h3]at m3 h4;rw[afJ _ (by decide:0<2)]at h4;have z:r%16/2/2/2/2=0:=by omega
 rw[z,Nat.xor_zero]at h4;clear hx h1 h2 h3;omega
theorem BF(r:Nat):Pc r=bit (bit (bit (bit r))):=by
 conv=>rhs;rw[RJ r]
 simp only[PT,Lp];unfold Pc;rw[<-Lo ⟨r%16,by omega⟩]
theorem UJ(r:Nat)(h:r<4294967296):bit r<4294967296:=by
 unfold bit;refine agc (n:=32) (by omega) ?_;split<;>omega
end Crc
end Go.Proofs.YtjbcbnemdhbhbaaGreatDoor
namespace Go.Proofs.YtjbcbnemdhbhbaaGreatDoor
open Go.Proofs.Tryz
open Go.RowKit
open Go.PlainAid
def aO (w:AI):Prop:=∀k,k<16->w.cell? ⟨0,k,none⟩=some (.int .u32 (Crc.row.getD k 0:Nat))
def x8 (n:Nat) (w:AI) (e:Ending) (w':AI):Prop:=e= .returned (.int .u32 n)/\w=w'
theorem FO(x:Nat)(h:x<4294967296):bits .and .u32 (x:Int) 15=((x%16:Nat):Int):=by
 have:=u32_and_nat x 15 h (by decide);rw[show x &&& 15=x%16 from Nat.and_two_pow_sub_one_eq_mod x 4]at this;exact this
theorem NP(k:Nat):Crc.row.getD k 0<4294967296:=by
 by_cases h:k<16
 ·exact(show ∀k:Fin 16,Crc.row.getD k.val 0<4294967296 by decide) ⟨k,h⟩
 ·rw[List.getD_eq_getElem?_getD,List.getElem?_eq_none (by simpa[Crc.row]using h)]
  decide
theorem yF(x:Nat)(h:x<4294967296):bits .xor .u32 ((x:Int)/16) ((Crc.row.getD (x%16) 0:Nat):Int)=((Crc.Pc x:Nat):Int):=by
 have:=u32_xor_nat (x/16) (Crc.row.getD (x%16) 0) (by omega) (NP _);exact this
theorem yG(x:Nat)(h:x<4294967296):Crc.Pc x<4294967296:=agc (n:=32) (by omega) (NP _)
theorem Gw(n:Nat)(h:n<4294967296):bits .xor .u32 IntKind.u32.max (n:Int)=((4294967295-n:Nat):Int):=by
 have h1:=u32_xor_nat 4294967295 n (by decide) h;have h2:4294967295 ^^^ n=4294967295-n:=by
  have h3:=BitVec.toNat_not (x:=BitVec.ofNat 32 n);have h4:=BitVec.toNat_xor (x:=BitVec.allOnes 32) (y:=BitVec.ofNat 32 n);rw[BitVec.allOnes_xor]at h4;have h5:(BitVec.ofNat 32 n).toNat=n:=by rw[BitVec.toNat_ofNat];exact Nat.mod_eq_of_lt (by omega)
  have h6:(BitVec.allOnes 32).toNat=4294967295:=by decide
  rw[h5,h6]at h4;rw[<-h4,h3,h5]
 rw[h2]at h1;exact h1
theorem FP(r:Nat)(c:UInt8):Crc.UL r c=Crc.Pc (Crc.Pc (r ^^^ c.toNat)):=by
 unfold Crc.UL Crc.YZ;rw[Crc.BF,Crc.BF]
theorem uf(r:Nat)(l:List UInt8)(c:UInt8):Crc.Js r (l++[c])=Crc.UL (Crc.Js r l) c:=by unfold Crc.Js;rw[List.foldl_append];rfl
theorem jY(s:ByteArray)(k:Nat)(h:k<s.size):s.data.toList.take (k+1)=s.data.toList.take k++[s[k]]:=by
 rw[List.take_succ_eq_append_getElem (by simpa using h)];rfl
theorem Hq(s:ByteArray)(w:AI)(hs:s.size<=abi)(hr:aO w):
  aag prog 94 #[.int .u32 0,.string s] w (x8 (Crc.sum s.data.toList) w):=by
 unfold abi at hs;have HR:=sh hr;clear hr;have e0:bits .xor .u32 IntKind.u32.max 0=((4294967295:Nat):Int):=Gw 0 (by decide);go_enter func94,ntmps94
 go_wp2_with fail
 clear e0
 go_loop [5,11] (fun r i=>∃(k n:Nat),i= .int .i64 k/\r= .int .u32 n/\k<=s.size/\Hid (n<4294967296)/\Hid (n=Crc.Js 4294967295 (s.data.toList.take k))) (fun _ i=>s.size-(intOf i).toNat)
 case atStart=>exact⟨0,_,rfl,rfl,Nat.zero_le _,show _<_ by decide,show _=_ by simp[Crc.Js]⟩
 case round=>
  obtain⟨k,n,rfl,rfl,hk,HL,HN⟩:=hrel;by_cases aI:k<s.size
  ·have hc:=s[k].toNat_lt
   have e1:=u32_xor_nat n s[k].toNat HL.out (by omega);have HX:=sh (show n ^^^ s[k].toNat<4294967296 from agc (n:=32) HL.out (by omega));have HE:=sh (show Crc.UL n s[k]=_ from FP n s[k]);have HT:=sh (jY s k aI);generalize n ^^^ s[k].toNat=x at *;have HM:=sh (yG x HX.out);have e2:=FO x HX.out;have e3:=yF x HX.out;have hm:x%16<16:=by omega
   have c1:=HR.out (x%16) hm;generalize x%16=m at *;generalize Crc.row.getD m 0=a at *;generalize Crc.Pc x=y at *;have e4:=FO y HM.out;have e5:=yF y HM.out;have HZ:=sh (yG y HM.out);have mF:y%16<16:=by omega
   have c2:=HR.out (y%16) mF;generalize y%16=m2 at *;generalize Crc.row.getD m2 0=a2 at *;generalize Crc.Pc y=z at *;have e6:((s[k].toNat:Nat):Int)%4294967296=s[k].toNat:=by omega
   clear hc;go_wp2_with fail
   go_round
   case rel=>exact⟨k+1,z,by go_num,rfl,by omega,HZ.out,show _=_ by rw[HT.out,uf,<-HN.out,HE.out]⟩
   case measure=>simp[intOf];omega
  ·have e9:=Gw n HL.out
   have HE:Hid (n=Crc.Js 4294967295 s.data.toList):=by
    have:=HN.out;rw[List.take_of_length_le (by rw[bY];omega)]at this;exact this
   go_wp2_with fail
   go_ret
   refine⟨?_,rfl⟩;rw[show Crc.sum s.data.toList=4294967295-n by unfold Crc.sum Crc.on;rw[HE.out]];rfl
theorem GO(s:ByteArray)(w:AI)(hs:s.size<=abi)(hr:aO w):
  aag prog 177 #[.string s] w (x8 (Crc.sum s.data.toList) w):=by
 have H:=sh (Hq s w hs hr);clear hr;go_enter func177,ntmps177
 go_wp2_with (go_at_call 94;refine H.out.mono ?_;rintro e w' ⟨rfl,rfl⟩)
 go_ret
 exact⟨rfl,rfl⟩
def bitN:Nat->Nat->Nat
 | 0,r=>r
 | k+1,r=>Crc.bit (bitN k r)
theorem Hm(n:Nat)(h:n%2≠1):Crc.bit n=n/2:=by unfold Crc.bit;rw[if_neg h,Nat.xor_zero]
theorem PS(n:Nat)(hn:n<4294967296)(h:n%2=1):bits .xor .u32 ((n:Int)/2) 3988292384=((Crc.bit n:Nat):Int):=by
 have:=u32_xor_nat (n/2) 3988292384 (by omega) (by decide);unfold Crc.bit;rw[if_pos h];exact this
end Go.Proofs.YtjbcbnemdhbhbaaGreatDoor
namespace Go.Proofs.YtjbcbnemdhbhbaaGreatDoor
open Go.Proofs.Tryz
open Go.ChangeShapes Go.WideShapes Go.ChangeAt Go.RowKit Go.Joins
theorem agn:ownKnob prog.godebug=none:=by kernel_rfl
theorem Bv:laidOutB prog=true:=by kernel_rfl
theorem aev:prog.globalNamed "rollbook/crc.row" = some 0:=by kernel_rfl
theorem ago:(prog.globals[0]?).map (·.type)=some 231:=by kernel_rfl
abbrev pB:List (String×DataW Unit):=[("rollbook/crc.row",Rows.laid_rollbook_crc_row),("unicode/utf8.acceptRanges",Rows.laid_unicode_utf8_acceptRanges),("unicode/utf8.first",Rows.laid_unicode_utf8_first)]
theorem Rm{W:AI}(h:laidMetH prog pB W):aO W:=by
 rw[MakeChecks.laidMetH_plain _ _ _ (by kernel_rfl)]at h;obtain⟨ps,⟨g0,t0,cs0,f0,p0,q0,OW,V8,hv0,qV,_,_⟩,_,_⟩:=h;obtain rfl:=adW (aev.symm.trans OW);obtain rfl:=adW (ago.symm.trans V8);obtain⟨xs,m,rfl,hx,hlen,hn,hel⟩:=DataW.trod_array underlying231 qV;have c1:prog.cellsOf 81=1:=by kernel_rfl
 rw[c1]at hel;have O7:Rows.laid_rollbook_crc_row=DataW.agg (xs.map (·.1)):=(Prod.mk.injEq _ _ _ _ ▸ hx).1;intro k hk;have h1:=hel k hk;have Bj:k<xs.length:=by omega
 rw[aaG Bj]at h1;obtain⟨n,e1,e2,_⟩:=DataW.trod_int underlying81 h1;rw[World.var?_cell OW hv0 k];have hc:cs0.toList[k]? =some (.int .u32 n):=by
  have h2:=congrArg (fun l=>l[0]?) e1;simp only[List.getElem?_take,Nat.mul_one]at h2;simpa using h2
 rw[Array.getElem?_toList]at hc;rw[hc];have e3:(xs.map (·.1))[k]? =some (.lit (.int .u32 n)):=by
  rw[List.getElem?_map,aaG Bj,e2];rfl
 have e4:∀k,k<16->(match (Rows.laid_rollbook_crc_row:DataW Unit)with| .agg l=>l[k]? |_=>Option.none)=some (.lit (.int .u32 ((Crc.row.getD k 0:Nat):Int))):=by
  intro k hk;unfold Rows.laid_rollbook_crc_row;have:k=0\/k=1\/k=2\/k=3\/k=4\/k=5\/k=6\/k=7\/k=8\/k=9\/k=10\/k=11\/k=12\/k=13\/k=14\/k=15:=by omega
  rcases this with rfl|rfl|rfl|rfl|rfl|rfl|rfl|rfl|rfl|rfl|rfl|rfl|rfl|rfl|rfl|rfl<;>rfl
 have e5:=e4 k hk;rw[O7]at e5;simp only at e5;rw[e3]at e5;injection e5 with e5;injection e5 with e5;injection e5 with _ e5;rw[e5]
end Go.Proofs.YtjbcbnemdhbhbaaGreatDoor
namespace Go.Proofs.YtjbcbnemdhbhbaaGreatDoor
open Go.Proofs.Tryz
open Go.PlainAid
structure DevS where
 sec:List ByteArray
 row:List (Nat×ByteArray)
 off:Bool
 cD:Int
 steps:Int
 writes:Int
def ba (row:List (Nat×ByteArray)) (i:Nat):List ByteArray:=(row.filter fun x=>x.1==i).map (·.2)
namespace DevS
def waits (d:DevS) (i:Nat):List ByteArray:=ba d.row i
def nU (d:DevS) (i:Int):Bool:=decide (0<=i)&&decide (i<(d.sec.length:Int))
def eu (d:DevS):Bool:= !d.off&& !(d.cD==1)
def al (d:DevS):DevS:=
 if d.off then d else { d with off:=d.cD==1,cD:=max 0 (d.cD-1),steps:=d.steps+1 }
def write (d:DevS) (i:Int) (s:ByteArray):DevS×Int:=
 if d.nU i&&s.size==128 then
  if d.eu then ({ d.al with row:=d.row++[(i.toNat,s)],writes:=d.writes+1 },0)else (d.al,6)
 else (d,1)
def aG (d:DevS) (i:Nat):ByteArray:=(d.waits i).getLastD (d.sec.getD i aca)
def read (d:DevS) (i:Int):ByteArray×Int:=
 if d.nU i then if d.off then (aca,6)else (d.aG i.toNat,0)else (aca,1)
def synced (d:DevS):DevS:={ d with sec:=(afv d.sec.length).map d.aG,row:=[] }
def sync (d:DevS):DevS×Int:=if d.eu then (d.al.synced,0)else (d.al,6)
def cut (d:DevS):DevS×Int:=if d.off then (d,6)else ({ d with off:=true,cD:=0 },0)
def busy (d:DevS) (i:Nat):Bool:= !(d.waits i).isEmpty
def turn (d:DevS) (i:Nat):Nat:=((afv i).filter d.busy).length
def pick (xb:List Int) (k:Nat):Nat:=if xb=[]then 0 else (xb.getD (k%xb.length) 0).toNat
def kept (d:DevS) (xb:List Int) (i:Nat):ByteArray:=
 if pick xb (d.turn i)%((d.waits i).length+1)=0 then d.sec.getD i aca
 else (d.waits i).getD (pick xb (d.turn i)%((d.waits i).length+1)-1) aca
def aiU (d:DevS) (i:Int):ByteArray:=if d.nU i then d.sec.getD i.toNat aca else aca
def bw:ByteArray:=⟨(abQ 128 (0:UInt8)).toArray⟩
def new (n:Nat):DevS:=⟨abQ n bw,[],false,0,0,0⟩
structure Ok (d:DevS):Prop where
 some:0<d.sec.length
 most:d.sec.length<=2048
 Wv:∀s∈d.sec,s.size=128
 rows:∀x∈d.row,x.1<d.sec.length/\x.2.size=128
 LR:0<=d.cD
 FZ:d.cD<=9223372036854775807
 Cb:(d.row.length:Int)<=d.writes
 kF:d.writes<=d.steps
end DevS
theorem ie(row:List (Nat×ByteArray))(i j:Nat)(s:ByteArray):ba (row++[(i,s)]) j=if i=j then ba row j++[s]else ba row j:=by
 unfold ba;rw[List.filter_append];by_cases h:i=j
 ·rw[if_pos h];simp[h]
 ·rw[if_neg h];simp[h]
theorem fN(row:List (Nat×ByteArray))(i:Nat):(ba row i).length<=row.length:=by
 unfold ba;rw[List.length_map];exact List.length_filter_le _ _
theorem rG{row:List (Nat×ByteArray)}{i:Nat}{s:ByteArray}(h:s∈ba row i):(i,s)∈row:=by
 unfold ba at h;obtain⟨x,hx,rfl⟩:=abO.1 h;obtain⟨h1,h2⟩:=List.mem_filter.1 hx;have:x.1=i:=by simpa using h2
 obtain⟨a,b⟩:=x;simp only at this;subst this;exact h1
namespace DevS
theorem iB{d:DevS}{i:Int}:d.nU i=true↔0<=i/\i<(d.sec.length:Int):=by unfold nU;simp
theorem sd{d:DevS}(h:d.Ok){i:Nat}(hi:d.sec.length<=i):d.waits i=[]:=by
 cases hw:d.waits i with
 | nil=>rfl
 | cons s l=>
  have:=rG (row:=d.row) (i:=i) (s:=s) (by unfold waits at hw;rw[hw];exact List.mem_cons_self);have:=(h.rows _ this).1;simp only at this;omega
theorem gF(d:DevS):d.al.sec=d.sec:=by unfold al;split<;>rfl
theorem ma(d:DevS):d.al.row=d.row:=by unfold al;split<;>rfl
theorem dz(d:DevS):d.al.writes=d.writes:=by unfold al;split<;>rfl
theorem Ok.al{d:DevS}(h:d.Ok):d.al.Ok:=by
 unfold DevS.al;split
 ·exact h
 ·exact⟨h.some,h.most,h.Wv,h.rows,Int.le_max_left _ _,by have:=h.FZ;show max 0 (d.cD-1)<=_;omega,h.Cb,by have:=h.kF;show d.writes<=d.steps+1;omega⟩
theorem tQ{d:DevS}{i:Nat}(h:i<d.sec.length):d.aG i∈d.waits i\/(d.waits i=[]/\d.aG i=d.sec[i]):=by
 unfold aG;cases hw:d.waits i with
 | nil=>exact .inr ⟨rfl,by simp[h]⟩
 | cons s l=>exact .inl (by rw[List.getLastD_eq_getLast?,List.getLast?_eq_some_getLast (by simp),Option.getD_some];exact List.getLast_mem _)
theorem gE{d:DevS}(h:d.Ok){i:Nat}(hi:i<d.sec.length):(d.aG i).size=128:=by
 rcases tQ hi with hm|⟨_,he⟩
 ·exact(h.rows _ (rG hm)).2
 ·rw[he];exact h.Wv _ (List.getElem_mem hi)
theorem Ok.synced{d:DevS}(h:d.Ok):d.synced.Ok:=by
 refine⟨by simpa[DevS.synced]using h.some,by simpa[DevS.synced]using h.most,?_,by simp[DevS.synced],h.LR,h.FZ,?_,h.kF⟩
 ·intro s hs
  simp only[DevS.synced,abO,List.mem_range]at hs;obtain⟨i,hi,rfl⟩:=hs;exact gE h hi
 ·have:=h.Cb;simp only[DevS.synced,List.length_nil];omega
theorem Ok.WD{d:DevS}(h:d.Ok):0<=d.steps:=by have:=h.Cb;have:=h.kF;omega
theorem Ok.GW{d:DevS}(h:d.Ok):0<=d.writes:=by have:=h.Cb;omega
theorem fI:bw.size=128:=by simp[bw,ByteArray.size]
theorem Ok.new{n:Nat}(h0:0<n)(h1:n<=2048):(new n).Ok:=by
 refine⟨by simpa[DevS.new]using h0,by simpa[DevS.new]using h1,?_,by simp[DevS.new],afX _,by show (0:Int)<=_;omega,afX _,afX _⟩;intro s hs;obtain⟨_,rfl⟩:=List.mem_replicate.1 (show s∈abQ n bw from hs);exact fI
end DevS
end Go.Proofs.YtjbcbnemdhbhbaaGreatDoor
namespace Go.Proofs.YtjbcbnemdhbhbaaGreatDoor
open Go.Proofs.Tryz
open Go.RowKit
open Go.PlainAid
def cw (k n t:Int) (b:ByteArray):Bool:=decide (1<=k)&&decide (k<=4)&&decide (1<=n)&&decide (n<512)&&decide (0<=t)&&decide (t<=1099511627776)&&decide (b.size<=488)
theorem eY{k n t:Int}{b:ByteArray}(h:cw k n t b=true):1<=k/\k<=4/\1<=n/\n<512/\0<=t/\t<=1099511627776/\b.size<=488:=by
 unfold cw at h;simp only[abM,decide_eq_true_eq]at h;obtain⟨⟨⟨⟨⟨⟨a,b⟩,c⟩,d⟩,e⟩,f⟩,g⟩:=h;exact⟨a,b,c,d,e,f,g⟩
theorem Jt{k n t:Int}{b:ByteArray}(h:cw k n t b=false):k<1\/(1<=k/\4<k)\/(1<=k/\k<=4/\n<1)\/(1<=k/\k<=4/\1<=n/\512<=n)\/(1<=k/\k<=4/\1<=n/\n<512/\t<0)\/
  (1<=k/\k<=4/\1<=n/\n<512/\0<=t/\1099511627776<t)\/(1<=k/\k<=4/\1<=n/\n<512/\0<=t/\t<=1099511627776/\488<b.size):=by
 unfold cw at h;simp only[Bool.and_eq_false_iff,decide_eq_false_iff_not]at h;omega
theorem ET(k n t:Int)(b:ByteArray)(w:AI)(h:cw k n t b=true):
  aag prog 229 #[.agg #[.int .i64 k,.int .i64 n,.int .i64 t,.string b]] w (gb true w):=by
 obtain⟨h1,h2,h3,h4,h5,h6,h7⟩:=eY h;have q1:decide (1<=k)=true:=by simp;omega
 have q2:decide (k<=4)=true:=by simp;omega
 have q3:decide (1<=n)=true:=by simp;omega
 have q4:decide (n<512)=true:=by simp;omega
 have q5:decide (0<=t)=true:=by simp;omega
 have q6:decide (t<=1099511627776)=true:=by simp;omega
 have q7:decide ((b.size:Int)<=488)=true:=by simp;omega
 clear h h1 h2 h3 h4 h5 h6 h7;go_enter func229,ntmps229
 go_wp2_with fail
 go_ret
 exact dZ rfl ((IN _ _).alloc (AS _) _)
theorem Jo(k n t:Int)(b:ByteArray)(w:AI)(h:cw k n t b=false):
  aag prog 229 #[.agg #[.int .i64 k,.int .i64 n,.int .i64 t,.string b]] w (gb false w):=by
 have hd:=Jt h;clear h;rcases hd with h|⟨h1,h⟩|⟨h1,h2,h⟩|⟨h1,h2,h3,h⟩|⟨h1,h2,h3,h4,h⟩|⟨h1,h2,h3,h4,h5,h⟩|⟨h1,h2,h3,h4,h5,h6,h⟩;all_goals
  go_enter func229,ntmps229
  go_wp2_with fail
  go_ret
  exact dZ (by first|rfl|(symm;simp;omega)) ((IN _ _).alloc (AS _) _)
theorem ES(k n t:Int)(b:ByteArray)(w:AI):
  aag prog 229 #[.agg #[.int .i64 k,.int .i64 n,.int .i64 t,.string b]] w (gb (cw k n t b) w):=by
 cases h:cw k n t b with
 | true=>exact ET _ _ _ _ _ h
 | false=>exact Jo _ _ _ _ _ h
def bA (k n t len:Nat):List UInt8:=[82,66]++lays [(k,1),(0,1),(len,2),(n,4),(t,8)]
def cr (b:List UInt8):List UInt8:=[0,0]++b++abQ (488-b.length) 0
def GC (k n t:Nat) (b:List UInt8):Nat:=Crc.sum (bA k n t b.length++[0,0,0,0]++cr b)
def gV (k n t:Nat) (b:List UInt8):List UInt8:=bA k n t b.length++Be.low (GC k n t b) 4++cr b
def bK (k n t:Int) (b:ByteArray):ByteArray:=if cw k n t b then ⟨(gV k.toNat n.toNat t.toNat b.data.toList).toArray⟩else ⟨#[]⟩
def ji (k n t:Int) (b:ByteArray):Int:=if cw k n t b then 0 else 4
def sP (k n t:Int) (b:ByteArray) (w:AI) (e:Ending) (w':AI):Prop:=e= .returned (.tuple #[.string (bK k n t b),.int .i64 (ji k n t b)])/\Below w.heap.size w w'
theorem aO.lt{w:AI}(h:aO w):0<w.heap.size:=by
 have h0:=h 0 (by decide);rcases Nat.lt_or_ge 0 w.heap.size with hl|hl
 ·exact hl
 ·simp[World.cell?,Array.getElem?_eq_none hl]at h0
theorem aO.below{w w':AI}(h:aO w)(hb:Below w.heap.size w w'):aO w':=fun k hk=>(hb.cell (p:=⟨0,k,none⟩) h.lt).trans (h k hk)
theorem Og(l:List UInt8):Crc.sum l<4294967296:=by unfold Crc.sum Crc.on;omega
theorem Gy(w:AI)(a0 a1 a2 a3 a4 k0 k1 k2 k3 k4:Nat)(e:TypeId):
  pR (w.alloc (.cells #[.int .i64 a0,.int .i64 k0,.int .i64 a1,.int .i64 k1,.int .i64 a2,.int .i64 k2,.int .i64 a3,.int .i64 k3,.int .i64 a4,.int .i64 k4] e)) w.heap.size [(a0,k0),(a1,k1),(a2,k2),(a3,k3),(a4,k4)]:=by
 have hb:=Bk.new w e #[.int .i64 a0,.int .i64 k0,.int .i64 a1,.int .i64 k1,.int .i64 a2,.int .i64 k2,.int .i64 a3,.int .i64 k3,.int .i64 a4,.int .i64 k4];refine⟨hb.lt,?_⟩;intro i hi;have hc:i=0\/i=1\/i=2\/i=3\/i=4:=by simp at hi;omega
 rcases hc with rfl|rfl|rfl|rfl|rfl<;>exact⟨hb.cell _,hb.cell _⟩
theorem Gx(w:AI)(a0 k0:Nat)(e:TypeId):pR (w.alloc (.cells #[.int .i64 a0,.int .i64 k0] e)) w.heap.size [(a0,k0)]:=by
 have hb:=Bk.new w e #[.int .i64 a0,.int .i64 k0];refine⟨hb.lt,?_⟩;intro i hi;obtain rfl:i=0:=by simp at hi;omega
 exact⟨hb.cell _,hb.cell _⟩
theorem Y3(k n t len:Nat)(hk:k<=4)(hn:n<512)(ht:t<=1099511627776)(hl:len<=488):Fits [(k,1),(0,1),(len,2),(n,4),(t,8)]:=by
 intro p hp;simp only[List.mem_cons,List.not_mem_nil,or_false]at hp;rcases hp with rfl|rfl|rfl|rfl|rfl<;>refine⟨by simp,by simp,?_,?_⟩<;>simp<;>omega
theorem wF(s:Nat)(h:s<4294967296):Fits [(s,4)]:=by
 intro p hp;simp only[List.mem_singleton]at hp;subst hp;exact⟨by simp,by simp,by simp;omega,by simp;omega⟩
theorem BM(k n t:Int)(b:ByteArray)(w:AI)(hr:aO w):
  aag prog 172 #[.agg #[.int .i64 k,.int .i64 n,.int .i64 t,.string b]] w (sP k n t b w):=by
 have HR:=fun W:AI=>ES k n t b W;have kI:Below w.heap.size w (w.alloc (.cells #[.int .i64 k,.int .i64 n,.int .i64 t,.string b] 126)):=(IN _ _).alloc (AS _) _;have aU:=Bk.new w 126 #[.int .i64 k,.int .i64 n,.int .i64 t,.string b];have lS:=hr.below kI;cases hq:cw k n t b with
 | false=>
  rw[hq]at HR;have H1:=sh HR;have HS:=sh (show bK k n t b=⟨#[]⟩/\ji k n t b=4 by unfold bK ji;rw[hq];exact⟨rfl,rfl⟩);clear hq HR;go_enter func172,ntmps172
  go_wp2_with (first
   | (go_at_call 229;refine(H1.out _).mono ?_;rintro e w2 ⟨rfl,az⟩)
   | fail)
  go_ret2
  exact⟨by rw[HS.out.1,HS.out.2];rfl,kI.trans (az.mono kI.size)⟩
 | true=>
  rw[hq]at HR;have H1:=sh HR;have hS:bK k n t b=⟨(gV k.toNat n.toNat t.toNat b.data.toList).toArray⟩/\ji k n t b=0:=by unfold bK ji;rw[hq];exact⟨rfl,rfl⟩
  have HS:=sh hS;obtain⟨h1,h2,h3,h4,h5,h6,h7⟩:=eY hq;clear hq HR hS;obtain⟨kn,rfl⟩:=ach (show 0<=k by omega);obtain⟨nn,rfl⟩:=ach (show 0<=n by omega);obtain⟨tn,rfl⟩:=ach (show 0<=t by omega);have gf:=Y3 kn nn tn b.size (by omega) (by omega) (by omega) h7;have OK:=sh fun W:AI=>sz ⟨#[82,66]⟩ W.heap.size 5 [(kn,1),(0,1),(b.size,2),(nn,4),(tn,8)] _ rfl (by simp) (by decide) (Gy W kn 0 b.size nn tn 1 1 2 4 8 268) gf;have Qx:(⟨#[82,66]⟩++⟨(lays [(kn,1),(0,1),(b.size,2),(nn,4),(tn,8)]).toArray⟩:ByteArray)=⟨(bA kn nn tn b.size).toArray⟩:=by
   apply jA;rw[aS];rfl
  rw[Qx]at OK;have T6:=sh (show ∀W:AI,aag prog 175 #[.string ⟨#[82,66]⟩,.slice (some ⟨W.heap.size,0,none⟩) 5 5] (W.alloc (.cells #[.int .i64 (kn:Int),.int .i64 1,.int .i64 0,.int .i64 1,.int .i64 (b.size:Int),.int .i64 2,.int .i64 (nn:Int),.int .i64 4,.int .i64 (tn:Int),.int .i64 8] 268))
   (gP ⟨(bA kn nn tn b.size).toArray⟩ (W.alloc (.cells #[.int .i64 (kn:Int),.int .i64 1,.int .i64 0,.int .i64 1,.int .i64 (b.size:Int),.int .i64 2,.int .i64 (nn:Int),.int .i64 4,.int .i64 (tn:Int),.int .i64 8] 268))) from OK.out)
  clear OK;have hhs:(⟨(bA kn nn tn b.size).toArray⟩:ByteArray).size<=18:=by rw[cA];unfold bA lays;simp[Be.aq]
  have abo:(⟨#[0,0]⟩++b:ByteArray).size=2+b.size:=by rw[acj];rfl
  have HF:=fun W:AI=>td (⟨#[0,0]⟩++b) 490 W (by omega) (by decide);have O6:(⟨#[0,0]⟩++b++bw (490-(⟨#[0,0]⟩++b:ByteArray).size):ByteArray)=⟨(cr b.data.toList).toArray⟩:=by
   apply jA;rw[aS,aS,abo,fH,show 490-(2+b.size)=488-b.size by omega];rfl
  rw[O6]at HF;have uL:=sh HF;have hts:(⟨(cr b.data.toList).toArray⟩:ByteArray).size<=490:=by rw[cA];unfold cr;simp;omega
  have dJ:(⟨(bA kn nn tn b.size).toArray⟩++⟨#[0,0,0,0]⟩++⟨(cr b.data.toList).toArray⟩:ByteArray).data.toList=bA kn nn tn b.size++[0,0,0,0]++cr b.data.toList:=by
   rw[aS,aS]
  have MS:(⟨(bA kn nn tn b.size).toArray⟩++⟨#[0,0,0,0]⟩++⟨(cr b.data.toList).toArray⟩:ByteArray).size<=abi:=by
   rw[acj,acj];have:(⟨#[0,0,0,0]⟩:ByteArray).size=4:=rfl;unfold abi;omega
  have Us:=fun(W:AI) (hW:aO W)=>GO (⟨(bA kn nn tn b.size).toArray⟩++⟨#[0,0,0,0]⟩++⟨(cr b.data.toList).toArray⟩) W MS hW;rw[dJ]at Us;have fF:=Og (bA kn nn tn b.size++[0,0,0,0]++cr b.data.toList);have j9:=sh (show bK (kn:Int) nn tn b=⟨(bA kn nn tn b.size).toArray⟩++⟨(Be.low (Crc.sum (bA kn nn tn b.size++[0,0,0,0]++cr b.data.toList)) 4).toArray⟩++⟨(cr b.data.toList).toArray⟩/\ji (kn:Int) nn tn b=0 by
   refine⟨?_,HS.out.2⟩;rw[HS.out.1];apply jA;rw[aS,aS];rfl)
  generalize Crc.sum (bA kn nn tn b.size++[0,0,0,0]++cr b.data.toList)=sm at *;have Dd:=fun W:AI=>sz ⟨(bA kn nn tn b.size).toArray⟩ W.heap.size 1 [(sm,4)] _ rfl (by simp) (by omega) (Gx W sm 4 268) (wF sm fF);have Mj:lays [(sm,4)]=Be.low sm 4:=by unfold lays;simp
  rw[Mj]at Dd;have Yc:=(show ∀W:AI,aag prog 175 #[.string ⟨(bA kn nn tn b.size).toArray⟩,.slice (some ⟨W.heap.size,0,none⟩) 1 1] (W.alloc (.cells #[.int .i64 (sm:Int),.int .i64 4] 268))
   (gP (⟨(bA kn nn tn b.size).toArray⟩++⟨(Be.low sm 4).toArray⟩) (W.alloc (.cells #[.int .i64 (sm:Int),.int .i64 4] 268))) from Dd)
  clear Dd;have S9:(⟨(Be.low sm 4).toArray⟩:ByteArray).size<=4:=by rw[cA,Be.aq];exact AS _
  have hlc:(⟨(bA kn nn tn b.size).toArray⟩++⟨(Be.low sm 4).toArray⟩:ByteArray).size<=22:=by rw[acj];omega
  generalize (⟨(bA kn nn tn b.size).toArray⟩:ByteArray)=hd at *;generalize (⟨(Be.low sm 4).toArray⟩:ByteArray)=ls at *;generalize (⟨(cr b.data.toList).toArray⟩:ByteArray)=tl at *;have Dl:=sh Us;have T7:=sh Yc;have qL:=sh aU;have rN:=sh lS;have kR:=sh kI;clear HS Us Yc HF dJ MS O6 abo Qx gf Mj aU lS kI hr h1 h2 h3 h4 h5 h6;go_enter func172,ntmps172
  go_wp2_with (first
   | (go_at_call 229;refine(H1.out _).mono ?_;rintro e w2 ⟨rfl,az⟩;obtain⟨z0,z1,z2,z3⟩:=(af qL.out az).four;have bz:=sh az;clear az)
   | (go_at_call 175;(with_reducible refine(T6.out _).mono ?_);rintro e w3 ⟨rfl,aQ⟩;have dt:=sh (((IN w2.heap.size w2).alloc (AS _) _).trans (aQ.mono (by simp)));obtain⟨y0,y1,y2,y3⟩:=(af (af qL.out bz.out) dt.out).four;clear aQ)
   | (go_at_call 176;refine(uL.out _).mono ?_;rintro e w4 ⟨rfl,b7⟩;have fx:=sh b7;have Pz:=sh (((rN.out.below bz.out).below dt.out).below b7);clear b7)
   | (go_at_call 177;refine(Dl.out _ Pz.out).mono ?_;rintro e w' ⟨rfl,rfl⟩)
   | (go_at_call 175;(with_reducible refine(T7.out _).mono ?_);rintro e w5 ⟨rfl,dO⟩)
   | fail)
  go_ret2
  have a1:=kR.out.trans (bz.out.mono kR.out.size);have a2:=a1.trans (dt.out.mono a1.size);have a3:=a2.trans (fx.out.mono a2.size);have a4:=a3.alloc a3.size (.cells #[.int .i64 (sm:Nat),.int .i64 4] 268);exact⟨by rw[j9.out.1,j9.out.2];rfl,a4.trans (dO.mono a4.size)⟩
theorem gp(a x r:List UInt8)(p m:Nat)(ha:a.length=p)(hx:x.length=m):((a++(x++r)).drop p).take m=x:=by
 subst ha;subst hx;rw[List.drop_left,List.take_left]
theorem yJ(k n t len:Nat):(bA k n t len).length=18:=by
 unfold bA lays;simp[Be.aq]
theorem yK(b:List UInt8)(h:b.length<=488):(cr b).length=490:=by
 unfold cr;simp;omega
theorem mK(k n t:Nat)(b:List UInt8)(h:b.length<=488):(gV k n t b).length=512:=by
 unfold gV;rw[BY,BY,yJ,yK b h,Be.aq]
theorem fq(k n t:Nat)(b:List UInt8):gV k n t b=[82,66]++(Be.low k 1++(Be.low 0 1++(Be.low b.length 2++(Be.low n 4++(Be.low t 8++(Be.low (GC k n t b) 4++([0,0]++(b++abQ (488-b.length) 0)))))))):=by
 unfold gV bA cr lays;simp[OF]
theorem Rr(k n t:Nat)(b:List UInt8)(hk:k<=4):Be.num (((gV k n t b).drop 2).take 1)=k:=by
 rw[fq,gp _ _ _ 2 1 rfl (Be.aq _ _),Be.cq _ _ (by omega)]
theorem Rs(k n t:Nat)(b:List UInt8)(hb:b.length<=488):Be.num (((gV k n t b).drop 4).take 2)=b.length:=by
 rw[fq,<-OF,<-OF,gp _ _ _ 4 2 (by simp[Be.aq]) (Be.aq _ _),Be.cq _ _ (by omega)]
theorem Rt(k n t:Nat)(b:List UInt8)(hn:n<512):Be.num (((gV k n t b).drop 6).take 4)=n:=by
 rw[fq,<-OF,<-OF,<-OF,gp _ _ _ 6 4 (by simp[Be.aq]) (Be.aq _ _),Be.cq _ _ (by omega)]
theorem Ru(k n t:Nat)(b:List UInt8)(ht:t<=1099511627776):Be.num (((gV k n t b).drop 10).take 8)=t:=by
 rw[fq,<-OF,<-OF,<-OF,<-OF,gp _ _ _ 10 8 (by simp[Be.aq]) (Be.aq _ _),Be.cq _ _ (by omega)]
theorem Rq(k n t:Nat)(b:List UInt8):((gV k n t b).drop 24).take b.length=b:=by
 rw[fq,<-OF,<-OF,<-OF,<-OF,<-OF,<-OF,<-OF,gp _ _ _ 24 _ (by simp[Be.aq]) rfl]
def gO (s:ByteArray) (k n t:Int) (b:ByteArray):Prop:=cw k n t b=true/\bK k n t b=s
theorem jk{k n t:Int}{b:ByteArray}(h:cw k n t b=true):bK k n t b=⟨(gV k.toNat n.toNat t.toNat b.data.toList).toArray⟩:=by unfold bK;rw[h];rfl
theorem l8{k n t:Int}{b:ByteArray}(h:cw k n t b=true):ji k n t b=0:=by unfold ji;rw[h];rfl
theorem BL{k n t:Int}{b:ByteArray}(h:cw k n t b=false):ji k n t b=4:=by unfold ji;rw[h];rfl
theorem gO.says{s:ByteArray}{k n t:Int}{b:ByteArray}(h:gO s k n t b):
  s.size=512/\(∃r,s.data.toList=82::66::r)/\k=ai s 2 1/\ai s 4 2=b.size/\n=ai s 6 4/\t=ai s 10 8/\b=s.extract 24 (24+ai s 4 2):=by
 obtain⟨hr,hs⟩:=h;obtain⟨h1,h2,h3,h4,h5,h6,h7⟩:=eY hr;rw[jk hr]at hs;obtain⟨kn,rfl⟩:=ach (show 0<=k by omega);obtain⟨nn,rfl⟩:=ach (show 0<=n by omega);obtain⟨tn,rfl⟩:=ach (show 0<=t by omega);simp only[Int.toNat_natCast]at hs;have hl:s.data.toList=gV kn nn tn b.data.toList:=by rw[<-hs]
 have e1:ai s 2 1=kn:=by unfold ai;rw[hl];exact Rr _ _ _ _ (by omega)
 have e2:ai s 4 2=b.size:=by unfold ai;rw[hl];exact Rs _ _ _ _ h7
 have e3:ai s 6 4=nn:=by unfold ai;rw[hl];exact Rt _ _ _ _ (by omega)
 have e4:ai s 10 8=tn:=by unfold ai;rw[hl];exact Ru _ _ _ _ (by omega)
 refine⟨?_,⟨_,by rw[hl,fq];rfl⟩,by rw[e1],e2,by rw[e3],by rw[e4],?_⟩
 ·rw[<-bY,hl,mK _ _ _ _ h7]
 ·apply jA
  rw[cV,e2,hl,show 24+b.size-24=b.size by omega];exact(Rq _ _ _ _).symm
def iT (s:ByteArray):Bool:=cw (ai s 2 1) (ai s 6 4) (ai s 10 8) (s.extract 24 (24+ai s 4 2))&&decide (bK (ai s 2 1) (ai s 6 4) (ai s 10 8) (s.extract 24 (24+ai s 4 2))=s)
def Ox (s:ByteArray):Int:=if iT s then (ai s 2 1:Int)else 0
def Oy (s:ByteArray):Int:=if iT s then (ai s 6 4:Int)else 0
def Oz (s:ByteArray):Int:=if iT s then (ai s 10 8:Int)else 0
def OA (s:ByteArray):ByteArray:=if iT s then s.extract 24 (24+ai s 4 2)else ⟨#[]⟩
def Ow (s:ByteArray):Int:=if iT s then 0 else 4
theorem uE{s:ByteArray}(h:iT s=true):gO s (ai s 2 1) (ai s 6 4) (ai s 10 8) (s.extract 24 (24+ai s 4 2)):=by
 unfold iT at h;simp only[abM,decide_eq_true_eq]at h;exact h
theorem RN{s:ByteArray}{k n t:Int}{b:ByteArray}(h:gO s k n t b):iT s=true:=by
 obtain⟨h1,h2,h3,h4,h5,h6,h7⟩:=h.says;have h8:=h;rw[h3,h5,h6,h7]at h8;unfold iT;rw[h8.1,h8.2];simp
theorem OB{s:ByteArray}{k n t:Int}{b:ByteArray}(h:gO s k n t b):Ox s=k/\Oy s=n/\Oz s=t/\OA s=b/\Ow s=0:=by
 have hu:=RN h;obtain⟨h1,h2,h3,h4,h5,h6,h7⟩:=h.says;unfold Ox Oy Oz OA Ow;rw[hu];exact⟨h3.symm,h5.symm,h6.symm,h7.symm,rfl⟩
theorem WL{s:ByteArray}(h:iT s=false):Ox s=0/\Oy s=0/\Oz s=0/\OA s=⟨#[]⟩/\Ow s=4:=by
 unfold Ox Oy Oz OA Ow;rw[h];exact⟨rfl,rfl,rfl,rfl,rfl⟩
end Go.Proofs.YtjbcbnemdhbhbaaGreatDoor
namespace Go.Proofs.YtjbcbnemdhbhbaaGreatDoor
open Go.Proofs.Tryz
open Go.PlainAid
namespace DevS
def four (D:DevS) (no:Nat):ByteArray:=⟨((D.aG (4*no)).data.toList++(D.aG (4*no+1)).data.toList++(D.aG (4*no+2)).data.toList++(D.aG (4*no+3)).data.toList).toArray⟩
structure ve (D:DevS) (no:Nat) (k t:Int) (b:ByteArray):Prop where
 fits:4*no+4<=D.sec.length
 bytes:gO (D.four no) k no t b
theorem Rz{D:DevS}(ho:D.off=false){i:Nat}(hi:i<D.sec.length):D.read (i:Int)=(D.aG i,0):=by
 unfold DevS.read;have h1:D.nU (i:Int)=true:=DevS.iB.2 ⟨by omega,by omega⟩;rw[h1,ho];simp
theorem DQ{D E:DevS}{no:Nat}(h:∀i,4*no<=i->i<4*no+4->E.aG i=D.aG i):E.four no=D.four no:=by
 unfold four;rw[h _ (by omega) (by omega),h _ (by omega) (by omega),h _ (by omega) (by omega),h _ (by omega) (by omega)]
theorem CE{D:DevS}{i:Nat}{s:ByteArray}(hi:i<D.sec.length)(hs:s.size=128):D.write (i:Int) s=if D.eu then ({ D.al with row:=D.row++[(i,s)],writes:=D.writes+1 },0)else (D.al,6):=by
 unfold DevS.write;have h1:D.nU (i:Int)=true:=DevS.iB.2 ⟨by omega,by omega⟩;rw[h1,hs];simp
structure fC (D D':DevS) (A:Nat->Prop):Prop where
 sec:D'.sec=D.sec
 waits:∀j,¬ A j->D'.waits j=D.waits j
 steps:D.steps<=D'.steps
theorem fC.refl(D:DevS)(A:Nat->Prop):fC D D A:=⟨rfl,fun _ _=>rfl,afX _⟩
theorem fC.trans{D D' D'':DevS}{A:Nat->Prop}(h:fC D D' A)(k:fC D' D'' A):fC D D'' A:=
 ⟨k.sec.trans h.sec,fun j hj=>(k.waits j hj).trans (h.waits j hj),Int.le_trans h.steps k.steps⟩
theorem fC.mono{D D':DevS}{A B:Nat->Prop}(h:fC D D' A)(hAB:∀j,A j->B j):fC D D' B:=⟨h.sec,fun j hj=>h.waits j fun ha=>hj (hAB j ha),h.steps⟩
theorem fC.aG{D D':DevS}{A:Nat->Prop}(h:fC D D' A){j:Nat}(hj:¬ A j):D'.aG j=D.aG j:=by
 unfold DevS.aG;rw[h.sec,h.waits j hj]
theorem iK(D:DevS):D.steps<=D.al.steps/\D.al.steps<=D.steps+1:=by
 unfold al;split
 ·omega
 ·show D.steps<=D.steps+1/\D.steps+1<=D.steps+1
  omega
theorem nh(D:DevS)(A:Nat->Prop):fC D D.al A:=⟨gF D,fun j _=>by unfold waits;rw[ma],(iK D).1⟩
theorem gG{D:DevS}{i:Nat}{s:ByteArray}(hi:i<D.sec.length)(hs:s.size=128):fC D (D.write (i:Int) s).1 (· =i)/\(D.write (i:Int) s).1.steps<=D.steps+1/\
  (((D.write (i:Int) s).2=0/\(D.write (i:Int) s).1.aG i=s/\(D.write (i:Int) s).1.off=false)\/((D.write (i:Int) s).2=6/\(D.write (i:Int) s).1.off=true)):=by
 rw[CE hi hs];by_cases h:D.eu=true
 ·rw[if_pos h]
  have h2:=(iK D);refine⟨⟨gF D,fun j hj=> ?_,h2.1⟩,h2.2,.inl ⟨rfl,?_,?_⟩⟩
  ·show ba (D.row++[(i,s)]) j=ba D.row j
   rw[ie,if_neg (fun e=>hj e.symm)]
  ·show (ba (D.row++[(i,s)]) i).getLastD _=s
   rw[ie,if_pos rfl];simp
  ·unfold eu at h
   simp at h;show D.al.off=false;unfold al;simp[h.1,h.2]
 ·rw[if_neg h]
  refine⟨nh D _,(iK D).2,.inr ⟨rfl,?_⟩⟩;unfold eu at h;unfold al;cases ho:D.off with
  | true=>simp[ho]
  | false=>simp[ho]at h |-;exact h
def writeL (D:DevS):Nat->List ByteArray->DevS×Int
 | _,[]=>(D,0)
 | i,s::l=>if (D.write (i:Int) s).2=0 then writeL (D.write (i:Int) s).1 (i+1) l else ((D.write (i:Int) s).1,(D.write (i:Int) s).2)
theorem kE:∀(l:List ByteArray) (D:DevS) (i:Nat),i+l.length<=D.sec.length->(∀s∈l,s.size=128)->
  fC D (D.writeL i l).1 (fun j=>i<=j/\j<i+l.length)/\(D.writeL i l).1.steps<=D.steps+l.length/\
  (((D.writeL i l).2=0/\(∀(j:Nat) (x:ByteArray),l[j]? =some x->(D.writeL i l).1.aG (i+j)=x)/\(D.off=false->(D.writeL i l).1.off=false))\/((D.writeL i l).2=6/\(D.writeL i l).1.off=true))
 | [],D,i,_,_=>⟨fC.refl _ _,by simp[writeL],.inl ⟨rfl,fun j x h=>by simp at h,fun h=>h⟩⟩
 | s::l,D,i,hi,hs=>by
  rw[List.length_cons]at hi |-;obtain⟨h1,h2,h3⟩:=gG (D:=D) (i:=i) (s:=s) (by omega) (hs s (by simp));rcases h3 with⟨h3,h4,h5⟩|⟨h3,h4⟩
  ·have he:D.writeL i (s::l)=writeL (D.write (i:Int) s).1 (i+1) l:=by
    show (if (D.write (i:Int) s).2=0 then _ else _)=_;rw[if_pos h3]
   obtain⟨k1,k2,k3⟩:=kE l (D.write (i:Int) s).1 (i+1) (by rw[h1.sec];omega) (fun x hx=>hs x (by simp[hx]));rw[he];refine⟨(h1.mono (fun j hj=>by omega)).trans (k1.mono (fun j hj=>by omega)),by push_cast;omega,?_⟩;rcases k3 with⟨k3,k4,k5⟩|k3
   ·refine .inl ⟨k3,fun j x hj=> ?_,fun _=>k5 h5⟩
    cases j with
    | zero=>
     rw[k1.aG (by omega),Nat.add_zero,h4];exact adW hj
    | succ j=>
     have:=k4 j x (by simpa using hj);rw[show i+(j+1)=i+1+j by omega];exact this
   ·exact .inr k3
  ·have he:D.writeL i (s::l)=((D.write (i:Int) s).1,(D.write (i:Int) s).2):=by
    show (if (D.write (i:Int) s).2=0 then _ else _)=_;rw[if_neg (by rw[h3];decide)]
   rw[he];exact⟨h1.mono (fun j hj=>by omega),by push_cast;omega,.inr ⟨h3,h4⟩⟩
theorem vN{D:DevS}{i:Nat}(hi:i<D.sec.length):D.synced.aG i=D.aG i:=by
 show (ba [] i).getLastD _=_;show D.synced.sec.getD i aca=_;simp[synced,hi]
theorem oa(D:DevS):D.synced.sec.length=D.sec.length:=by simp[synced]
theorem jm(D:DevS):D.al.sec.length=D.sec.length:=by rw[gF]
theorem uy(D:DevS)(i:Nat):D.al.aG i=D.aG i:=(nh D (fun _=>False)).aG (by simp)
theorem ve.congr{D E:DevS}{no:Nat}{k t:Int}{b:ByteArray}(h:D.ve no k t b)(hl:E.sec.length=D.sec.length)(he:∀i,4*no<=i->i<4*no+4->E.aG i=D.aG i):E.ve no k t b:=
 ⟨by rw[hl];exact h.fits,by rw[DQ he];exact h.bytes⟩
end DevS
end Go.Proofs.YtjbcbnemdhbhbaaGreatDoor
