/-
  Layer 5: who is a member, which ballot may be, a ballot behind a term.
-/
import Derived.Test.YtlejbhgginolgaaEntriesH
import Derived.Test.YtlejbhgginolgaaVoteM
namespace Go.Proofs.Ytlejbhgginolgaa
open Go.RowKit
set_option linter.unusedVariables false
/-- A message: kind, from, to, term, index, its term, what is settled, yes, entries. -/
abbrev Mg := Int × Int × Int × Int × Int × Int × Int × Bool × List En
abbrev msgV (m : Mg) (a : Option Addr) (cap : Nat) : Value := .agg #[.int .i64 m.1, .int .i64 m.2.1, .int .i64 m.2.2.1, .int .i64 m.2.2.2.1, .int .i64 m.2.2.2.2.1, .int .i64 m.2.2.2.2.2.1, .int .i64 m.2.2.2.2.2.2.1, .bool m.2.2.2.2.2.2.2.1, .slice a m.2.2.2.2.2.2.2.2.length cap]
/-- A ballot behind a message of a term. -/
def seeF (t v T : Int) : Int × Int := if t < T ∧ T ≤ 1073741824 then (T, 0) else (t, v)
theorem see_any (t v T : Int) (w : World) : Calls Try.prog 38 #[ballotV t v, .int .i64 T] w fun e w' => e = .returned (ballotV (seeF t v T).1 (seeF t v T).2) ∧ Below w.heap.size w w' := by
  by_cases h : t < T ∧ T ≤ 1073741824
  · rw [show seeF t v T = (T, 0) from if_pos h]
    obtain ⟨h1, h2⟩ := h
    go_enter Try.func38, Try.ntmps38
    go_wp2
    refine bodyPost_ret (v := ballotV T 0) (by simp [results, Try.results38, go_sem]) rfl ?_
    exact ⟨rfl, below2 _ _ _⟩
  · rw [show seeF t v T = (t, v) from if_neg h]
    have h1 : T ≤ t ∨ 1073741824 < T := by omega
    clear h
    by_cases h2 : T ≤ t
    · clear h1
      go_enter Try.func38, Try.ntmps38
      go_wp2
      refine bodyPost_ret (v := ballotV t v) (by simp [results, Try.results38, go_sem]) rfl ?_
      exact ⟨rfl, below2 _ _ _⟩
    · have h3 : 1073741824 < T := by omega
      clear h1
      go_enter Try.func38, Try.ntmps38
      go_wp2
      refine bodyPost_ret (v := ballotV t v) (by simp [results, Try.results38, go_sem]) rfl ?_
      exact ⟨rfl, below2 _ _ _⟩
end Go.Proofs.Ytlejbhgginolgaa
