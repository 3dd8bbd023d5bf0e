/-
  Layer 4, the document's answer: rising terms, which log may be.
-/
import Derived.Test.YtlejbhgginolgaaEntriesB
import Derived.Test.YtlejbhgginolgaaBoxes
namespace Go.Proofs.Ytlejbhgginolgaa
open Go.RowKit
set_option linter.unusedVariables false
end Go.Proofs.Ytlejbhgginolgaa
