/-
  Layer 4: a log that may be, or none.
-/
import Derived.Test.YtlejbhgginolgaaEntriesB
import Derived.Test.YtlejbhgginolgaaBoxes
namespace Go.Proofs.Ytlejbhgginolgaa
open Go.RowKit
set_option linter.unusedVariables false
set_option maxHeartbeats 1600000 in
theorem fair_yes (b t : Int) (a : Option Addr) (cap : Nat) (es : List En) (w : World) (hl : LogIn w a cap es) (hm : mayL b t es = true) :
    Calls Try.prog 40 #[logV b t a es.length cap] w fun e w' => e = .returned (logV b t a es.length cap) ∧ Below w.heap.size w w' := by
  have HM : Hid (∀ W, Below w.heap.size w W → Calls Try.prog 23 #[logV b t a es.length cap] W fun e w' => e = .returned (.bool true) ∧ Below W.heap.size W w') := fun W h => by have := may_any b t a cap es W (hl.below h); rwa [hm] at this
  clear hl hm
  go_enter Try.func40, Try.ntmps40
  go_wp2_with (go_at_call 23; refine (HM.out _ (below2 _ _ _)).mono ?_; rintro e w1 ⟨rfl, hb1⟩; have hF := blk_keep hb1 (alloc2_fst _ _ _); have hG := blk_keep hb1 (alloc2_snd _ _ _); obtain ⟨hc0, hc1, hc2, _, _, _, hlt⟩ := box3 hF; obtain ⟨gc0, gc1, gc2, gf0, gf1, gf2, hlt2⟩ := box3 hG)
  obtain ⟨k0, k1, k2, _⟩ := box3 (set3_blk hG (.int .i64 b) (.int .i64 t) (.slice a es.length cap))
  refine bodyPost_ret (v := logV b t a es.length cap) (by simp [results, Try.results40, go_sem, k0, k1, k2]) rfl ?_
  exact ⟨rfl, set3_below (alloc2_below hb1) (by omega) _ _ _⟩
set_option maxHeartbeats 1600000 in
theorem fair_no (b t : Int) (a : Option Addr) (cap : Nat) (es : List En) (w : World) (hl : LogIn w a cap es) (hm : mayL b t es = false) :
    Calls Try.prog 40 #[logV b t a es.length cap] w fun e w' => e = .returned (logV 0 0 none 0 0) ∧ Below w.heap.size w w' := by
  have HM : Hid (∀ W, Below w.heap.size w W → Calls Try.prog 23 #[logV b t a es.length cap] W fun e w' => e = .returned (.bool false) ∧ Below W.heap.size W w') := fun W h => by have := may_any b t a cap es W (hl.below h); rwa [hm] at this
  clear hl hm
  go_enter Try.func40, Try.ntmps40
  go_wp2_with (go_at_call 23; refine (HM.out _ (below2 _ _ _)).mono ?_; rintro e w1 ⟨rfl, hb1⟩; have hF := blk_keep hb1 (alloc2_fst _ _ _); have hG := blk_keep hb1 (alloc2_snd _ _ _); obtain ⟨hc0, hc1, hc2, _, _, _, hlt⟩ := box3 hF; obtain ⟨gc0, gc1, gc2, gf0, gf1, gf2, hlt2⟩ := box3 hG)
  obtain ⟨k0, k1, k2, _⟩ := box3 (set3_blk hG (.int .i64 0) (.int .i64 0) (.slice none 0 0))
  refine bodyPost_ret (v := logV 0 0 none 0 0) (by simp [results, Try.results40, go_sem, k0, k1, k2]) rfl ?_
  exact ⟨rfl, set3_below (alloc2_below hb1) (by omega) _ _ _⟩
end Go.Proofs.Ytlejbhgginolgaa
