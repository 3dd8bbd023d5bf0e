/-
  Layer 4: which log is newer.
-/
import Derived.Test.YtlejbhgginolgaaEntriesE
namespace Go.Proofs.Ytlejbhgginolgaa
open Go.RowKit
set_option linter.unusedVariables false
theorem newer_any (i t k u : Int) (w : World) :
    Calls Try.prog 52 #[.int .i64 i, .int .i64 t, .int .i64 k, .int .i64 u] w fun e w' => e = .returned (.bool (newerB i t k u)) ∧ w' = w := by
  unfold newerB
  by_cases h : t = u
  · subst h
    go_enter Try.func52, Try.ntmps52
    go_wp2
    go_ret
    refine ⟨?_, rfl⟩
    simp
  · have h1 : (t != u) = true := by simpa using h
    have h2 : Hid (decide (t > u ∨ t = u ∧ i ≥ k) = decide (u < t)) := by rw [Hid]; apply decide_eq_decide.2; omega
    clear h
    rw [h2.out]
    clear h2
    go_enter Try.func52, Try.ntmps52
    go_wp2
    go_ret
    exact ⟨rfl, rfl⟩
end Go.Proofs.Ytlejbhgginolgaa
