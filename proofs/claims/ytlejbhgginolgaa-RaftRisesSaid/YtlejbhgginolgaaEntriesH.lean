/-
  Layer 4, the document's answer: the last entry.
-/
import Derived.Test.YtlejbhgginolgaaEntriesG
import Derived.Test.YtlejbhgginolgaaEntriesE2
namespace Go.Proofs.Ytlejbhgginolgaa
open Go.RowKit
set_option linter.unusedVariables false
end Go.Proofs.Ytlejbhgginolgaa
