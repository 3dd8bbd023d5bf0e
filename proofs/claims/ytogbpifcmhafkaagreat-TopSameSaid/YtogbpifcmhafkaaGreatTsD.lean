/-
 A closed fact of the program.
-/
import Derived.Test.YtogbpifcmhafkaaGreatRows
import Derived.JoinedOf
import Derived.WalkKit
import Derived.ProofKit




namespace Go.Proofs.YtogbpifcmhafkaaGreat.topSame
open Go.ChangeShapes Go.WideShapes Go.ChangeAt Go.RowKit
theorem k11:((Rows.topSameRow.recurses == Tryz.pinned.checked.prog.recurses 3))=true:=by kernel_rfl
end Go.Proofs.YtogbpifcmhafkaaGreat.topSame
