/- MsgWide: its walk, whole. -/
import Derived.Test.YtbiglfpikfjbpaaDoorMsgWide2
import Derived.Test.YtbiglfpikfjbpaaDoorMsgSame2
namespace Go.Proofs.YtbiglfpikfjbpaaDoor
open Go.RowKit
theorem msgWide_row (M : Ms) (m : MC) (S : Nat → Prop) (more : Bool) (w : World) (h : MsAt w S M m) (ha : AnsAt w) : Calls Tryd.prog 3 #[.agg m.cells, .bool more] w (Holds w) :=
  msgWide_any (fun M m1 m2 S1 S2 w h1 h2 => same_msg M m1 m2 S1 S2 w h1 h2) M m S more w h ha
end Go.Proofs.YtbiglfpikfjbpaaDoor
