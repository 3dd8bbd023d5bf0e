/-
  Layer 4: whether an index is one of a log.
-/
import Derived.Test.YtlejbhgginolgaaEntriesI
import Derived.Test.YtlejbhgginolgaaEntriesH
namespace Go.Proofs.Ytlejbhgginolgaa
open Go.RowKit
set_option linter.unusedVariables false
theorem within_any (b t : Int) (a : Option Addr) (cap : Nat) (es : List En) (i : Int) (w : World) (hl : LogIn w a cap es) (hm : mayL b t es = true) :
    Calls Try.prog 53 #[logV b t a es.length cap, .int .i64 i] w fun e w' => e = .returned (.int .i64 (if i < b then 9 else if b + es.length < i then 10 else 0)) ∧ Below w.heap.size w w' := by
  have HL : Hid (∀ W, Below w.heap.size w W → Calls Try.prog 21 #[logV b t a es.length cap] W fun e w' => e = .returned (.tuple #[.int .i64 (b + es.length), .int .i64 (endT es t)]) ∧ Below W.heap.size W w') := fun W h => by
    have := last_any b t a cap es W (hl.below h)
    unfold lastF at this
    rwa [fairL_yes hm] at this
  clear hl hm
  by_cases h1 : i < b
  · rw [if_pos h1]
    go_enter Try.func53, Try.ntmps53
    go_wp2_with (go_at_call 21; refine (HL.out _ (below1 _ _)).mono ?_; rintro e w1 ⟨rfl, hb1⟩; have hF := blk_keep hb1 (blk_new _ _); obtain ⟨hc0, hc1, hc2, hf0, hf1, hf2, hlt⟩ := box3 hF)
    go_ret
    exact ⟨rfl, alloc_below hb1⟩
  rw [if_neg h1]
  by_cases h2 : b + (es.length : Int) < i
  · rw [if_pos h2]
    go_enter Try.func53, Try.ntmps53
    go_wp2_with (go_at_call 21; refine (HL.out _ (below1 _ _)).mono ?_; rintro e w1 ⟨rfl, hb1⟩; have hF := blk_keep hb1 (blk_new _ _); obtain ⟨hc0, hc1, hc2, hf0, hf1, hf2, hlt⟩ := box3 hF)
    go_ret
    exact ⟨rfl, alloc_below hb1⟩
  · rw [if_neg h2]
    go_enter Try.func53, Try.ntmps53
    go_wp2_with (go_at_call 21; refine (HL.out _ (below1 _ _)).mono ?_; rintro e w1 ⟨rfl, hb1⟩; have hF := blk_keep hb1 (blk_new _ _); obtain ⟨hc0, hc1, hc2, hf0, hf1, hf2, hlt⟩ := box3 hF)
    go_ret
    exact ⟨rfl, alloc_below hb1⟩
end Go.Proofs.Ytlejbhgginolgaa
