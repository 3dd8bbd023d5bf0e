/-
  Layer 4's laws: EntriesNewer.
-/
import Derived.Test.YtifbcdjabdfeeaaEntriesL
namespace Go.Proofs.Ytifbcdjabdfeeaa
open Go.RowKit
set_option linter.unusedVariables false
set_option maxHeartbeats 3200000 in
theorem entriesNewer_walk (i t k u m v : Int) (w : World) :
    Calls Try.prog 10 #[.int .i64 i, .int .i64 t, .int .i64 k, .int .i64 u, .int .i64 m, .int .i64 v] w fun e w' => e = .returned (.bool true) ∧ Below w.heap.size w w' := by
  have hE := newerB_refl i t
  cases hA : newerB i t k u with
  | false =>
    have hB := newerB_total hA
    go_enter Try.func10, Try.ntmps10
    go_wp2_with (first
      | (go_at_call 24; refine (entriesAwake_any _).mono ?_; rintro e w1 ⟨rfl, hw0⟩)
      | (go_at_call 29; refine (newer_any _ _ _ _ _).mono ?_; rintro e w2 ⟨rfl, rfl⟩))
    go_ret
    exact ⟨rfl, hw0⟩
  | true =>
    cases hB : newerB k u i t with
    | true =>
      obtain ⟨rfl, rfl⟩ := newerB_both hA hB
      cases hC : newerB i t m v with
      | false =>
        go_enter Try.func10, Try.ntmps10
        go_wp2_with (first
          | (go_at_call 24; refine (entriesAwake_any _).mono ?_; rintro e w1 ⟨rfl, hw0⟩)
          | (go_at_call 29; refine (newer_any _ _ _ _ _).mono ?_; rintro e w2 ⟨rfl, rfl⟩))
        go_ret
        exact ⟨rfl, hw0⟩
      | true =>
        go_enter Try.func10, Try.ntmps10
        go_wp2_with (first
          | (go_at_call 24; refine (entriesAwake_any _).mono ?_; rintro e w1 ⟨rfl, hw0⟩)
          | (go_at_call 29; refine (newer_any _ _ _ _ _).mono ?_; rintro e w2 ⟨rfl, rfl⟩))
        go_ret
        exact ⟨rfl, hw0⟩
    | false =>
      cases hC : newerB k u m v with
      | false =>
        go_enter Try.func10, Try.ntmps10
        go_wp2_with (first
          | (go_at_call 24; refine (entriesAwake_any _).mono ?_; rintro e w1 ⟨rfl, hw0⟩)
          | (go_at_call 29; refine (newer_any _ _ _ _ _).mono ?_; rintro e w2 ⟨rfl, rfl⟩))
        go_ret
        exact ⟨rfl, hw0⟩
      | true =>
        have hD := newerB_trans hA hC
        go_enter Try.func10, Try.ntmps10
        go_wp2_with (first
          | (go_at_call 24; refine (entriesAwake_any _).mono ?_; rintro e w1 ⟨rfl, hw0⟩)
          | (go_at_call 29; refine (newer_any _ _ _ _ _).mono ?_; rintro e w2 ⟨rfl, rfl⟩))
        go_ret
        exact ⟨rfl, hw0⟩
end Go.Proofs.Ytifbcdjabdfeeaa
