/-
  Helpers that more than one layer uses, with bytes.
-/
import Derived.Test.YtipngfdibcapjaaBaseStr
import Derived.Test.YtipngfdibcapjaaBaseR
