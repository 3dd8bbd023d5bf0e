/-
  Layer 6's laws: QuorumMeets.
-/
import Derived.Test.YtgiokifnapbflaaQuorumD
import Derived.Test.YtgiokifnapbflaaOpenBools
namespace Go.Proofs.Ytgiokifnapbflaa
open Go.RowKit
set_option linter.unusedVariables false
set_option maxRecDepth 100000 in
set_option maxHeartbeats 6400000 in
theorem quorumMeets_walk (a : Option Addr) (cap : Nat) (xs : List Bool) (a' : Option Addr) (cap' : Nat) (ys : List Bool) (w : World) (hx : BoolsIn w a cap xs) (hy : BoolsIn w a' cap' ys) :
    Calls Try.prog 3 #[.slice a xs.length cap, .slice a' ys.length cap'] w fun e w' => e = .returned (.bool true) ∧ Below w.heap.size w w' := by
  by_cases h1 : (100 : Int) < (xs.length : Int)
  · clear hx hy
    go_enter Try.func3, Try.ntmps3
    go_wp2_with (go_at_call 7; refine (quorumAwake_any _).mono ?_; rintro en w1 ⟨rfl, hw1⟩)
    go_ret
    exact ⟨rfl, hw1⟩
  by_cases h2 : xs.length = ys.length
  rotate_left 1
  · have h2' : ((xs.length : Int) != (ys.length : Int)) = true := by simp; omega
    clear hx hy h2
    go_enter Try.func3, Try.ntmps3
    go_wp2_with (go_at_call 7; refine (quorumAwake_any _).mono ?_; rintro en w1 ⟨rfl, hw1⟩)
    go_ret
    exact ⟨rfl, hw1⟩
  have h2' : ((xs.length : Int) != (ys.length : Int)) = false := by simp [h2]
  by_cases h0 : xs.length = 0
  · have h00 : ((xs.length : Int) == 0) = true := by simp [h0]
    clear hx hy h2 h0
    go_enter Try.func3, Try.ntmps3
    go_wp2_with (go_at_call 7; refine (quorumAwake_any _).mono ?_; rintro en w1 ⟨rfl, hw1⟩)
    go_ret
    exact ⟨rfl, hw1⟩
  have h00 : ((xs.length : Int) == 0) = false := by rw [beq_eq_false_iff_ne]; omega
  have H2 := Lib.hid h2
  have hl100 : xs.length ≤ 100 := by omega
  have hl1 : 1 ≤ xs.length := by omega
  have HX := Lib.hid hx
  have HY := Lib.hid hy
  have hM1 : Hid (∀ W, Calls Try.prog 8 #[.int .i64 (xs.length : Int)] W fun e w' => e = .returned (.int .i64 (majN xs.length : Nat)) ∧ W = w') := fun W => by
    have := majority_any (xs.length : Int) (by omega) (by omega) W
    rw [if_neg (by omega)] at this
    unfold majN
    rwa [show ((xs.length / 2 + 1 : Nat) : Int) = (xs.length : Int) / 2 + 1 by omega]
  have hq : xs.length < 2 * majN xs.length ∧ majN xs.length ≤ xs.length := by unfold majN; omega
  clear h2 hx hy h0
  go_enter Try.func3, Try.ntmps3
  go_wp2_with (go_at_call 7; refine (quorumAwake_any _).mono ?_; rintro en w1 ⟨rfl, hw1⟩)
  go_loop [6, 7, 8, 9] (fun p q r k => ∃ (j n m c : Nat), j ≤ xs.length ∧ n ≤ j ∧ m ≤ j ∧ c ≤ j ∧ n + m ≤ j + c ∧ p = .int .i64 (n : Int) ∧ q = .int .i64 (m : Int) ∧ r = .int .i64 (c : Int) ∧ k = .int .i64 (j : Int)) (fun _ _ _ k => xs.length - (intOf k).toNat)
  case atStart => exact ⟨0, 0, 0, 0, by omega, by omega, by omega, by omega, by omega, rfl, rfl, rfl, rfl⟩
  case round =>
    obtain ⟨j, n, m, c, hj, hn, hm, hc, hnm, rfl, rfl, rfl, rfl⟩ := hrel
    by_cases hlt : j < xs.length
    · obtain ⟨b, off, rfl, hblt, hx0⟩ := bools_at (RowAt.below HX.out.cells hw1) hlt
      have hltk : j < ys.length := by have := H2.out; omega
      obtain ⟨b', off', rfl, hblt', hy0⟩ := bools_at (RowAt.below HY.out.cells hw1) hltk
      generalize (xs[j]'hlt) = x at hx0
      generalize (ys[j]'hltk) = y at hy0
      have hj0 : (0 : Int) ≤ (j : Int) := by omega
      have hj1 : (j : Int) < (xs.length : Int) := by omega
      have hj2 : (j : Int) < (ys.length : Int) := by omega
      have hj3 : (j : Int) ≤ 100 := by omega
      have hn' : (n : Int) ≤ 100 := by omega
      have hm' : (m : Int) ≤ 100 := by omega
      have hc' : (c : Int) ≤ 100 := by omega
      cases x
      · cases y
        · go_wp2
          go_round
          case rel => exact ⟨j + 1, n, m, c, by omega, by omega, by omega, by omega, by omega, rfl, rfl, rfl, by go_num⟩
          case measure => simp [intOf]; omega
        · go_wp2
          go_round
          case rel => exact ⟨j + 1, n, m + 1, c, by omega, by omega, by omega, by omega, by omega, rfl, by go_num, rfl, by go_num⟩
          case measure => simp [intOf]; omega
      · cases y
        · go_wp2
          go_round
          case rel => exact ⟨j + 1, n + 1, m, c, by omega, by omega, by omega, by omega, by omega, by go_num, rfl, rfl, by go_num⟩
          case measure => simp [intOf]; omega
        · go_wp2
          go_round
          case rel => exact ⟨j + 1, n + 1, m + 1, c + 1, by omega, by omega, by omega, by omega, by omega, by go_num, by go_num, by go_num, by go_num⟩
          case measure => simp [intOf]; omega
    · have hjl : j = xs.length := by omega
      generalize majN xs.length = q at hM1 hq
      by_cases hnq : n < q
      · have hnq' : (n : Int) < (q : Int) := by omega
        clear hjl
        go_wp2_with (go_at_call 8; refine (hM1.out _).mono ?_; rintro en w3 ⟨rfl, rfl⟩)
        go_ret
        exact ⟨by simp, hw1⟩
      by_cases hmq : m < q
      · have hmq' : (m : Int) < (q : Int) := by omega
        clear hjl
        go_wp2_with (go_at_call 8; refine (hM1.out _).mono ?_; rintro en w3 ⟨rfl, rfl⟩)
        go_ret
        exact ⟨by simp, hw1⟩
      have k1 : (0 : Int) < (c : Int) := by omega
      have k1' : 0 < c := by omega
      have k2 : (xs.length : Int) < 2 * (q : Int) := by omega
      have k3 : (q : Int) ≤ (xs.length : Int) := by omega
      have k4 : (q : Int) ≤ 100 := by omega
      clear hjl
      go_wp2_with (go_at_call 8; refine (hM1.out _).mono ?_; rintro en w3 ⟨rfl, rfl⟩)
      go_ret
      exact ⟨by simp, hw1⟩
end Go.Proofs.Ytgiokifnapbflaa
