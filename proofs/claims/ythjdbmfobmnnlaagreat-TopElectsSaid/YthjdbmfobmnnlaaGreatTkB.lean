/-
  A closed fact of the program.
-/
import Derived.Test.YthjdbmfobmnnlaaGreatRows
import Derived.JoinedOf
import Derived.WalkKit
import Derived.ProofKit
namespace Go.Proofs.YthjdbmfobmnnlaaGreat.topElects
open Go.ChangeShapes Go.WideShapes Go.ChangeAt Go.RowKit
theorem k9 : ((Rows.topElectsRow.inPlace == Tryz.pinned.checked.prog.inPlace 3)) = true := by kernel_rfl
end Go.Proofs.YthjdbmfobmnnlaaGreat.topElects
