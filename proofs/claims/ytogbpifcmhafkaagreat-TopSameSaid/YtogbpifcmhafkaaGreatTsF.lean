/-
 A closed fact of the program.
-/
import Derived.Test.YtogbpifcmhafkaaGreatRows
import Derived.JoinedOf
import Derived.WalkKit
import Derived.ProofKit




namespace Go.Proofs.YtogbpifcmhafkaaGreat.topSame
open Go.ChangeShapes Go.WideShapes Go.ChangeAt Go.RowKit
theorem k2:(mapsRowed Tryz.pinned.checked.prog)=true:=by kernel_rfl
theorem k24:(Tryz.pinned.checked.prog.stopsHeard)=true:=by kernel_rfl
theorem k25:(Tryz.pinned.checked.prog.mayEnter)=true:=by kernel_rfl
end Go.Proofs.YtogbpifcmhafkaaGreat.topSame
