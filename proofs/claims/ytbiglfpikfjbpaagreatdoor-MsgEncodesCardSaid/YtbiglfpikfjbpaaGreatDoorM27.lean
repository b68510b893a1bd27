import Derived.Test.YtbiglfpikfjbpaaGreatDoorM21
import Derived.Test.YtbiglfpikfjbpaaGreatDoorM22
import Derived.Test.YtbiglfpikfjbpaaGreatDoorM23
import Derived.Test.YtbiglfpikfjbpaaGreatDoorM24
import Derived.Test.YtbiglfpikfjbpaaGreatDoorM25
import Derived.Test.YtbiglfpikfjbpaaGreatDoorM26
namespace Go.Proofs.YtbiglfpikfjbpaaGreatDoor
open Go.RowKit
set_option maxRecDepth 100000
set_option linter.unusedVariables false
set_option linter.unusedSimpArgs false
set_option maxHeartbeats 40000000
theorem same_ne (M X : Ms) (m1 m2 : MC) (S1 S2 : Nat -> Prop) (w : World) (h1 : MsAt w S1 M m1) (h2 : MsAt w S2 X m2) (hX : (X.filter = M.filter \/ X.filter = Fl.zero) /\ (X.attrs = M.attrs \/ X.attrs = []) /\ (X.dest = M.dest \/ X.dest = [])) (e_id : X.id = M.id) (e_op : X.op = M.op) (hne : M.lens ≠ X.lens) :
  Calls Tryz.prog 12 #[.agg m1.cells,.agg m2.cells] w (aq false w):=by
 by_cases e_version : X.version = M.version
 rotate_left
 ·exact same_ne_version M X m1 m2 S1 S2 w h1 h2 e_id e_op e_version
 by_cases e_name : X.name = M.name
 rotate_left
 ·exact same_ne_name M X m1 m2 S1 S2 w h1 h2 e_id e_op e_version e_name
 by_cases e_sasl : X.sasl = M.sasl
 rotate_left
 ·exact same_ne_sasl M X m1 m2 S1 S2 w h1 h2 e_id e_op e_version e_name e_sasl
 by_cases e_secret : X.secret = M.secret
 rotate_left
 ·exact same_ne_secret M X m1 m2 S1 S2 w h1 h2 e_id e_op e_version e_name e_sasl e_secret
 by_cases e_kind : X.kind = M.kind
 rotate_left
 ·exact same_ne_kind M X m1 m2 S1 S2 w h1 h2 e_id e_op e_version e_name e_sasl e_secret e_kind
 by_cases e_has : X.has = M.has
 rotate_left
 ·exact same_ne_has M X m1 m2 S1 S2 w h1 h2 e_id e_op e_version e_name e_sasl e_secret e_kind e_has
 by_cases e_value : X.value = M.value
 rotate_left
 ·exact same_ne_value M X m1 m2 S1 S2 w h1 h2 e_id e_op e_version e_name e_sasl e_secret e_kind e_has e_value
 by_cases e_code : X.code = M.code
 rotate_left
 ·exact same_ne_code M X m1 m2 S1 S2 w h1 h2 e_id e_op e_version e_name e_sasl e_secret e_kind e_has e_value e_code
 by_cases e_text : X.text = M.text
 rotate_left
 ·exact same_ne_text M X m1 m2 S1 S2 w h1 h2 e_id e_op e_version e_name e_sasl e_secret e_kind e_has e_value e_code e_text
 by_cases e2 : X.scope = M.scope /\ X.deref = M.deref /\ X.size = M.size /\ X.time = M.time
 rotate_left
 ·exact same_ne_sec1 M X m1 m2 S1 S2 w h1 h2 e_id e_op e_version e_name e_sasl e_secret e_kind e_has e_value e_code e_text e2
 obtain ⟨e_scope,e_deref,e_size,e_time⟩:=e2
 by_cases e2 : X.types = M.types /\ X.rdn = M.rdn /\ X.old = M.old /\ X.other = M.other
 rotate_left
 ·exact same_ne_sec2 M X m1 m2 S1 S2 w h1 h2 e_id e_op e_version e_name e_sasl e_secret e_kind e_has e_value e_code e_text e_scope e_deref e_size e_time e2
 obtain ⟨e_types,e_rdn,e_old,e_other⟩:=e2
 refine same_ne_rest M X m1 m2 S1 S2 w h1 h2 hX e_id e_op e_version e_name e_sasl e_secret e_kind e_has e_value e_code e_text e_scope e_deref e_size e_time e_types e_rdn e_old e_other fun h => hne ?_
 obtain ⟨EF,EA,ED,EL,EM,EC⟩:=h
 unfold Ms.lens Ms.mc
 rw [EF,EA,ED,EL,EM,EC,e_id,e_op,e_version,e_name,e_sasl,e_secret,e_kind,e_has,e_value,e_code,e_text,e_scope,e_deref,e_size,e_time,e_types,e_rdn,e_old,e_other]
end Go.Proofs.YtbiglfpikfjbpaaGreatDoor
