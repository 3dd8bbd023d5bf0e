/-
  Bytes as elements of a slice.
-/
import Derived.Test.YtipngfdibcapjaaBase
namespace Go.Proofs.Ytipngfdibcapjaa
open Go.RowKit
theorem elemB : Elem Try.prog 23 5 (.int .u8 0) 1 1 := ⟨Try.underlying23, by kernel_rfl, rfl, by omega⟩
end Go.Proofs.Ytipngfdibcapjaa
