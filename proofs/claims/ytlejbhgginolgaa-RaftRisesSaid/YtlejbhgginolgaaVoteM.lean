/-
  Layer 5: who is a member, which ballot may be.
-/
import Derived.Test.YtlejbhgginolgaaBoxes
namespace Go.Proofs.Ytlejbhgginolgaa
open Go.RowKit
set_option linter.unusedVariables false
abbrev ballotV (t v : Int) : Value := .agg #[.int .i64 t, .int .i64 v]
def memberB (f : Int) : Bool := decide (1 ≤ f) && decide (f ≤ 16)
def mayV (t v : Int) : Bool := decide (0 ≤ t) && decide (t ≤ 1073741824) && (v == 0 || memberB v)
theorem member_any (f : Int) (w : World) : Calls Try.prog 42 #[.int .i64 f] w fun e w' => e = .returned (.bool (memberB f)) ∧ w' = w := by
  unfold memberB
  go_enter Try.func42, Try.ntmps42
  go_wp2
  all_goals (go_ret; refine ⟨ret_bool ?_, rfl⟩)
  all_goals (simp_all; try omega)
set_option maxHeartbeats 1600000 in
theorem mayV_any (t v : Int) (w : World) : Calls Try.prog 22 #[ballotV t v] w fun e w' => e = .returned (.bool (mayV t v)) ∧ Below w.heap.size w w' := by
  have HM : Hid (∀ W, Calls Try.prog 42 #[.int .i64 v] W fun e w' => e = .returned (.bool (memberB v)) ∧ w' = W) := fun W => member_any v W
  unfold mayV
  generalize memberB v = m at HM
  go_enter Try.func22, Try.ntmps22
  go_wp2_with (go_at_call 42; refine (HM.out _).mono ?_; rintro e w1 ⟨rfl, rfl⟩)
  all_goals (go_ret; refine ⟨ret_bool ?_, below1 _ _⟩)
  all_goals (simp_all; try omega)
end Go.Proofs.Ytlejbhgginolgaa
