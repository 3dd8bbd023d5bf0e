/-
  Layer 4, the document's answer: two logs that are the same.
-/
import Derived.Test.YtlejbhgginolgaaEntriesI
namespace Go.Proofs.Ytlejbhgginolgaa
open Go.RowKit
set_option linter.unusedVariables false
theorem logs_any (b t : Int) (a : Option Addr) (cap : Nat) (es : List En) (b' t' : Int) (a' : Option Addr) (cap' : Nat) (fs : List En) (w : World) (hl : LogIn w a cap es) (hl' : LogIn w a' cap' fs) :
    Calls Try.prog 13 #[logV b t a es.length cap, logV b' t' a' fs.length cap'] w fun e w' => e = .returned (.bool (decide (es = fs) && b == b' && t == t')) ∧ Below w.heap.size w w' := by
  have HS : Hid (∀ W, Below w.heap.size w W → Calls Try.prog 20 #[.slice a es.length cap, .slice a' fs.length cap'] W fun e w' => e = .returned (.bool (decide (es = fs))) ∧ Below W.heap.size W w') := fun W h => same_any a cap es a' cap' fs W (hl.below h).row (hl'.below h).row hl.max
  clear hl hl'
  generalize decide (es = fs) = R at HS
  go_enter Try.func13, Try.ntmps13
  go_wp2_with (go_at_call 20; refine (HS.out _ (below2 _ _ _)).mono ?_; rintro e w1 ⟨rfl, hb1⟩; have g0 := blk_keep hb1 (alloc2_fst _ _ _); have g1 := blk_keep hb1 (alloc2_snd _ _ _); obtain ⟨hc0, hc1, hc2, _, _, _, hlt0⟩ := box3 g0; obtain ⟨lc0, lc1, lc2, _, _, _, hlt1⟩ := box3 g1)
  all_goals (go_ret; refine ⟨ret_bool ?_, alloc2_below hb1⟩)
  all_goals simp_all
end Go.Proofs.Ytlejbhgginolgaa
