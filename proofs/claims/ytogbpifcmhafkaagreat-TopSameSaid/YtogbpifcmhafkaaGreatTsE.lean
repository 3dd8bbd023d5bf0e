/-
 A closed fact of the program.
-/
import Derived.Test.YtogbpifcmhafkaaGreatRows
import Derived.JoinedOf
import Derived.WalkKit
import Derived.ProofKit




namespace Go.Proofs.YtogbpifcmhafkaaGreat.topSame
open Go.ChangeShapes Go.WideShapes Go.ChangeAt Go.RowKit
theorem k12:((Rows.topSameRow.named == Tryz.pinned.checked.prog.varsNamed 3))=true:=by kernel_rfl
end Go.Proofs.YtogbpifcmhafkaaGreat.topSame
