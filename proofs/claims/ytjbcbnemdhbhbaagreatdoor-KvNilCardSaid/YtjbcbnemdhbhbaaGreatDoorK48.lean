import Derived.Test.YtjbcbnemdhbhbaaGreatDoorK0
import Derived.ProofKit
import Derived.OpenShut
import Derived.ShutString
import Derived.ChangeOld
import Derived.SliceStrings
namespace Go.Proofs.YtjbcbnemdhbhbaaGreatDoor
open Go.ChangeShapes Go.WideShapes Go.ChangeAt Go.RowKit
end Go.Proofs.YtjbcbnemdhbhbaaGreatDoor
