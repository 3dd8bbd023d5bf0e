/-
  Layer 5: the chapter's example; a log of few entries.
-/
import Derived.Test.YtifbcdjabdfeeaaVoteC
namespace Go.Proofs.Ytifbcdjabdfeeaa
open Go.RowKit
set_option linter.unusedVariables false
theorem grant_ex1 (w : World) : Calls Try.prog 17 #[ballotV 0 0, logV 0 0 none 0 0, .agg #[.int .i64 0, .int .i64 2, .int .i64 0, .int .i64 1, .int .i64 0, .int .i64 0, .int .i64 0, .bool false, .slice none 0 0]] w fun e w' => e = .returned (.tuple #[ballotV 1 2, .bool true]) ∧ Below w.heap.size w w' := by
  have := grant_any 0 0 0 0 none 0 [] (0, 2, 0, 1, 0, 0, 0, false, []) none 0 w (LogIn.zero w)
  rwa [show grantF 0 0 0 0 [] 2 1 0 0 = (1, 2, true) by decide] at this
theorem grant_ex2 (w : World) : Calls Try.prog 17 #[ballotV 1 2, logV 0 0 none 0 0, .agg #[.int .i64 0, .int .i64 3, .int .i64 0, .int .i64 1, .int .i64 0, .int .i64 0, .int .i64 0, .bool false, .slice none 0 0]] w fun e w' => e = .returned (.tuple #[ballotV 1 2, .bool false]) ∧ Below w.heap.size w w' := by
  have := grant_any 1 2 0 0 none 0 [] (0, 3, 0, 1, 0, 0, 0, false, []) none 0 w (LogIn.zero w)
  rwa [show grantF 1 2 0 0 [] 3 1 0 0 = (1, 2, false) by decide] at this
theorem grant_ex3 (w : World) : Calls Try.prog 17 #[ballotV 1 2, logV 0 0 none 0 0, .agg #[.int .i64 0, .int .i64 3, .int .i64 0, .int .i64 2, .int .i64 0, .int .i64 0, .int .i64 0, .bool false, .slice none 0 0]] w fun e w' => e = .returned (.tuple #[ballotV 2 3, .bool true]) ∧ Below w.heap.size w w' := by
  have := grant_any 1 2 0 0 none 0 [] (0, 3, 0, 2, 0, 0, 0, false, []) none 0 w (LogIn.zero w)
  rwa [show grantF 1 2 0 0 [] 3 2 0 0 = (2, 3, true) by decide] at this
set_option maxHeartbeats 1600000 in
theorem voteAwake_any (w : World) : Calls Try.prog 15 #[] w fun e w' => e = .returned (.bool true) ∧ Below w.heap.size w w' := by
  have G1 := Lib.hid grant_ex1
  have G2 := Lib.hid grant_ex2
  have G3 := Lib.hid grant_ex3
  go_enter Try.func15, Try.ntmps15
  go_wp2_with (first
    | (go_at_call 17; with_reducible refine (G1.out _).mono ?_; rintro e w1 ⟨rfl, hb1⟩; have g1 := blk_new w1 (.cells #[.int .i64 1, .int .i64 2] 23))
    | (go_at_call 17; with_reducible refine (G2.out _).mono ?_; rintro e w2 ⟨rfl, hb2⟩; replace g1 := blk_keep hb2 g1; obtain ⟨hc0, hc1, _, _, hlt1⟩ := box2 g1)
    | (go_at_call 17; with_reducible refine (G3.out _).mono ?_; rintro e w3 ⟨rfl, hb3⟩; replace g1 := blk_keep hb3 (blk_alloc g1 _); obtain ⟨hc0, hc1, _, _, hlt1⟩ := box2 g1))
  go_ret
  have h2 := bt (hb1.alloc hb1.size _) hb2
  have h3 := bt (h2.alloc h2.size _) hb3
  exact ⟨rfl, h3.alloc h3.size _⟩
theorem few_any (b t : Int) (a : Option Addr) (n cap : Nat) (w : World) : Calls Try.prog 16 #[logV b t a n cap] w fun e w' => e = .returned (.bool (decide ((n : Int) ≤ 100))) ∧ Below w.heap.size w w' := by
  go_enter Try.func16, Try.ntmps16
  go_wp2
  go_ret
  exact ⟨rfl, below1 _ _⟩
end Go.Proofs.Ytifbcdjabdfeeaa
