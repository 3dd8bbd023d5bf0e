/-
  Layer 4, the document's answer: a log that may be, the term of an index.
-/
import Derived.Test.YtlejbhgginolgaaEntriesF
import Derived.Test.YtlejbhgginolgaaEntriesE
namespace Go.Proofs.Ytlejbhgginolgaa
open Go.RowKit
set_option linter.unusedVariables false
end Go.Proofs.Ytlejbhgginolgaa
