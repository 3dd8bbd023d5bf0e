/-
  Layer 6: how many are more than half, how many have an index, and the document's answers.
-/
import Derived.Test.YtlejbhgginolgaaQMath
import Derived.Test.YtlejbhgginolgaaInts
namespace Go.Proofs.Ytlejbhgginolgaa
open Go.RowKit
set_option linter.unusedVariables false
theorem majority_any (n : Int) (h : n ≤ 9223372036854775807) (h0 : -9223372036854775808 ≤ n) (w : World) : Calls Try.prog 44 #[.int .i64 n] w fun e w' => e = .returned (.int .i64 (if n < 1 then 1 else n / 2 + 1)) ∧ w = w' := by
  by_cases h1 : n < 1
  · rw [if_pos h1]
    have hm : max n 0 = 0 := by omega
    go_enter Try.func44, Try.ntmps44
    clear hm
    go_wp2
    all_goals
      go_ret
      refine ⟨?_, rfl⟩
      first
        | rfl
        | (simp; omega)
  · rw [if_neg h1]
    have hm : max n 0 = n := by omega
    have h2 : 0 ≤ n := by omega
    clear h1
    go_enter Try.func44, Try.ntmps44
    go_wp2
    go_ret
    exact ⟨by simp, rfl⟩
/-- What the document's loop has found so far. -/
def Found (ns : List Int) (j : Nat) (best : Int) (found : Bool) : Prop :=
  (found = false → best = 0 ∧ ∀ m ∈ ns.take j, ¬ enough ns m) ∧ (found = true → enough ns best ∧ ∀ m ∈ ns.take j, enough ns m → m ≤ best)
theorem Found.step {ns : List Int} {j : Nat} {best : Int} {found : Bool} (hf : Found ns j best found) (hj : j < ns.length) :
    (enough ns (ns[j]'hj) ∧ (found = false ∨ best < (ns[j]'hj)) → Found ns (j + 1) (ns[j]'hj) true) ∧ (¬ (enough ns (ns[j]'hj) ∧ (found = false ∨ best < (ns[j]'hj))) → Found ns (j + 1) best found) := by
  obtain ⟨h1, h2⟩ := hf
  have hm : ∀ m, m ∈ ns.take (j + 1) ↔ m ∈ ns.take j ∨ m = ns[j]'hj := fun m => by
    rw [List.take_succ_eq_append_getElem hj, List.mem_append, List.mem_singleton]
  refine ⟨fun ⟨he, hb⟩ => ⟨fun h => by (cases h), fun _ => ⟨he, fun m hmm hem => ?_⟩⟩, fun hn => ⟨fun h => ⟨(h1 h).1, fun m hmm => ?_⟩, fun h => ⟨(h2 h).1, fun m hmm hem => ?_⟩⟩⟩
  · rcases (hm m).1 hmm with h | rfl
    · cases found with
      | false => exact ((h1 rfl).2 m h hem).elim
      | true =>
        have := (h2 rfl).2 m h hem
        rcases hb with hb | hb
        · cases hb
        · omega
    · exact Int.le_refl _
  · rcases (hm m).1 hmm with h' | rfl
    · exact (h1 h).2 m h'
    · exact fun he => hn ⟨he, .inl h⟩
  · rcases (hm m).1 hmm with h' | rfl
    · exact (h2 h).2 m h' hem
    · rcases Int.lt_or_le best (ns[j]'hj) with h3 | h3
      · exact (hn ⟨hem, .inr h3⟩).elim
      · exact h3
theorem Found.last {ns : List Int} {best : Int} {found : Bool} (hf : Found ns ns.length best found) : best = mostL ns := by
  obtain ⟨h1, h2⟩ := hf
  rw [List.take_length] at h1 h2
  by_cases h0 : ns.length = 0
  · cases found with
    | false => unfold mostL; rw [if_pos h0]; exact (h1 rfl).1
    | true =>
      have := (h2 rfl).1
      have hh := heldN_le ns best
      unfold enough majN at this
      omega
  · obtain ⟨s1, s2, s3⟩ := most_spec h0
    cases found with
    | false => exact ((h1 rfl).2 _ s1 s2).elim
    | true => exact most_unique h0 (h2 rfl).1 (h2 rfl).2
end Go.Proofs.Ytlejbhgginolgaa
