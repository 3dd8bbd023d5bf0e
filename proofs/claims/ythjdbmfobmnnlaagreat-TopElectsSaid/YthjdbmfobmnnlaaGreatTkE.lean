/-
  A closed fact of the program.
-/
import Derived.Test.YthjdbmfobmnnlaaGreatRows
import Derived.JoinedOf
import Derived.WalkKit
import Derived.ProofKit
namespace Go.Proofs.YthjdbmfobmnnlaaGreat.topElects
open Go.ChangeShapes Go.WideShapes Go.ChangeAt Go.RowKit
theorem k12 : ((Rows.topElectsRow.named == Tryz.pinned.checked.prog.varsNamed 3)) = true := by kernel_rfl
end Go.Proofs.YthjdbmfobmnnlaaGreat.topElects
