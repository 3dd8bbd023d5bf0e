/-
  Layer 6's laws: QuorumTells, QuorumMost.
-/
import Derived.Test.YtgiokifnapbflaaQuorumD
namespace Go.Proofs.Ytgiokifnapbflaa
open Go.RowKit
set_option linter.unusedVariables false
set_option maxRecDepth 100000 in
set_option maxHeartbeats 3200000 in
theorem quorumTells_walk (a : Option Addr) (cap : Nat) (ns : List Int) (i n : Int) (hn : (Lit.int .i64 n).wf = true) (w : World) (hi : IntsIn w a cap ns) :
    Calls Try.prog 4 #[.slice a ns.length cap, .int .i64 i, .int .i64 n] w fun e w' => e = .returned (.bool true) ∧ Below w.heap.size w w' := by
  by_cases h1 : (100 : Int) < (ns.length : Int)
  · clear hi
    go_enter Try.func4, Try.ntmps4
    go_wp2_with (go_at_call 7; refine (quorumAwake_any _).mono ?_; rintro en w1 ⟨rfl, hw1⟩)
    go_ret
    exact ⟨rfl, hw1⟩
  have hnw : -9223372036854775808 ≤ n ∧ n ≤ 9223372036854775807 := by simpa [Lit.wf, IntKind.min, IntKind.max, IntKind.bits, IntKind.signed] using hn
  have hM1 : Hid (∀ W, Calls Try.prog 8 #[.int .i64 n] W fun e w' => e = .returned (.int .i64 (if n < 1 then 1 else n / 2 + 1)) ∧ W = w') := fun W => majority_any n hnw.2 hnw.1 W
  have hM2 : Hid (∀ W, Calls Try.prog 9 #[.int .i64 n] W fun e w' => e = .returned (.int .i64 (if n < 1 then 1 else n / 2 + 1)) ∧ W = w') := fun W => refMajority_any n hnw.2 hnw.1 W
  have hH1 : Hid (∀ W, Below w.heap.size w W → Calls Try.prog 10 #[.slice a ns.length cap, .int .i64 i] W fun e w' => e = .returned (.int .i64 (heldN ns i)) ∧ W = w') := fun W h => held_any a cap ns i W (hi.cells.below h) (by omega)
  have hH2 : Hid (∀ W, Below w.heap.size w W → Calls Try.prog 11 #[.slice a ns.length cap, .int .i64 i] W fun e w' => e = .returned (.int .i64 (heldN ns i)) ∧ W = w') := fun W h => refHeld_any a cap ns i W (hi.cells.below h) (by omega)
  have hO1 : Hid (∀ W, Below w.heap.size w W → Calls Try.prog 12 #[.slice a ns.length cap] W fun e w' => e = .returned (.int .i64 (mostL ns)) ∧ Below W.heap.size W w') := fun W h => most_any a cap ns W (hi.cells.below h) hi.none_ (by omega)
  have hO2 : Hid (∀ W, Below w.heap.size w W → Calls Try.prog 13 #[.slice a ns.length cap] W fun e w' => e = .returned (.int .i64 (mostL ns)) ∧ W = w') := fun W h => refMost_any a cap ns W (hi.cells.below h) (by omega)
  clear hi hn hnw
  generalize (if n < 1 then 1 else n / 2 + 1) = q at hM1 hM2
  generalize heldN ns i = h at hH1 hH2
  generalize mostL ns = m at hO1 hO2
  go_enter Try.func4, Try.ntmps4
  go_wp2_with (first
    | (go_at_call 7; refine (quorumAwake_any _).mono ?_; rintro en w1 ⟨rfl, hw1⟩)
    | (go_at_call 8; refine (hM1.out _).mono ?_; rintro en w2 ⟨rfl, rfl⟩)
    | (go_at_call 9; refine (hM2.out _).mono ?_; rintro en w2 ⟨rfl, rfl⟩)
    | (go_at_call 10; refine (hH1.out _ hw1).mono ?_; rintro en w2 ⟨rfl, rfl⟩)
    | (go_at_call 11; refine (hH2.out _ hw1).mono ?_; rintro en w2 ⟨rfl, rfl⟩)
    | (go_at_call 12; refine (hO1.out _ hw1).mono ?_; rintro en w2 ⟨rfl, hb2⟩; have hw2 := hw1.trans (hb2.mono hw1.size))
    | (go_at_call 13; refine (hO2.out _ hw2).mono ?_; rintro en w3 ⟨rfl, rfl⟩))
  go_ret
  exact ⟨by simp, hw2⟩
set_option maxRecDepth 100000 in
set_option maxHeartbeats 3200000 in
theorem quorumMost_walk (a : Option Addr) (cap : Nat) (ns : List Int) (more : Int) (w : World) (hi : IntsIn w a cap ns) :
    Calls Try.prog 5 #[.slice a ns.length cap, .int .i64 more] w fun e w' => e = .returned (.bool true) ∧ Below w.heap.size w w' := by
  by_cases h1 : (100 : Int) < (ns.length : Int)
  · clear hi
    go_enter Try.func5, Try.ntmps5
    go_wp2_with (go_at_call 7; refine (quorumAwake_any _).mono ?_; rintro en w1 ⟨rfl, hw1⟩)
    go_ret
    exact ⟨rfl, hw1⟩
  by_cases h0 : ns.length = 0
  · obtain rfl := List.eq_nil_of_length_eq_zero h0
    clear hi h0 h1
    go_enter Try.func5, Try.ntmps5
    go_wp2_with (go_at_call 7; refine (quorumAwake_any _).mono ?_; rintro en w1 ⟨rfl, hw1⟩)
    go_ret
    exact ⟨rfl, hw1⟩
  obtain ⟨s1, s2, s3⟩ := most_spec h0
  have hM1 : Hid (∀ W, Calls Try.prog 8 #[.int .i64 (ns.length : Int)] W fun e w' => e = .returned (.int .i64 (majN ns.length : Nat)) ∧ W = w') := fun W => by
    have := majority_any (ns.length : Int) (by omega) (by omega) W
    rw [if_neg (by omega)] at this
    unfold majN
    rwa [show ((ns.length / 2 + 1 : Nat) : Int) = (ns.length : Int) / 2 + 1 by omega]
  have hH1 : Hid (∀ W i, Below w.heap.size w W → Calls Try.prog 10 #[.slice a ns.length cap, .int .i64 i] W fun e w' => e = .returned (.int .i64 (heldN ns i)) ∧ W = w') := fun W i h => held_any a cap ns i W (hi.cells.below h) (by omega)
  have hO1 : Hid (∀ W, Below w.heap.size w W → Calls Try.prog 12 #[.slice a ns.length cap] W fun e w' => e = .returned (.int .i64 (mostL ns)) ∧ Below W.heap.size W w') := fun W h => most_any a cap ns W (hi.cells.below h) hi.none_ (by omega)
  have hl0 : ((ns.length : Int) == 0) = false := by rw [beq_eq_false_iff_ne]; omega
  have hHa := Lib.hid (fun W h => hH1.out W (mostL ns) h)
  have hHb := Lib.hid (fun W h => hH1.out W more h)
  have s3' : mostL ns < more → heldN ns more < majN ns.length := s3 more
  clear hi h0 s1 s3 hH1
  generalize majN ns.length = q at hM1 s2 s3'
  generalize heldN ns (mostL ns) = x at hHa s2
  generalize heldN ns more = y at hHb s3'
  generalize mostL ns = m at hO1 hHa s3'
  have s2' : (q : Int) ≤ (x : Int) := by omega
  by_cases hmore : m < more
  · have s4 : y < q := s3' hmore
    have s4' : (y : Int) < (q : Int) := by omega
    clear s3'
    go_enter Try.func5, Try.ntmps5
    go_wp2_with (first
      | (go_at_call 7; refine (quorumAwake_any _).mono ?_; rintro en w1 ⟨rfl, hw1⟩)
      | (go_at_call 12; refine (hO1.out _ hw1).mono ?_; rintro en w2 ⟨rfl, hb2⟩; have hw2 := hw1.trans (hb2.mono hw1.size))
      | (go_at_call 8; refine (hM1.out _).mono ?_; rintro en w3 ⟨rfl, rfl⟩)
      | (go_at_call 10; (with_reducible refine (hHa.out _ hw2).mono ?_); rintro en w3 ⟨rfl, rfl⟩)
      | (go_at_call 10; (with_reducible refine (hHb.out _ hw2).mono ?_); rintro en w3 ⟨rfl, rfl⟩))
    go_ret
    exact ⟨by simp, hw2⟩
  · clear s3'
    go_enter Try.func5, Try.ntmps5
    go_wp2_with (first
      | (go_at_call 7; refine (quorumAwake_any _).mono ?_; rintro en w1 ⟨rfl, hw1⟩)
      | (go_at_call 12; refine (hO1.out _ hw1).mono ?_; rintro en w2 ⟨rfl, hb2⟩; have hw2 := hw1.trans (hb2.mono hw1.size))
      | (go_at_call 8; refine (hM1.out _).mono ?_; rintro en w3 ⟨rfl, rfl⟩)
      | (go_at_call 10; (with_reducible refine (hHa.out _ hw2).mono ?_); rintro en w3 ⟨rfl, rfl⟩)
      | (go_at_call 10; (with_reducible refine (hHb.out _ hw2).mono ?_); rintro en w3 ⟨rfl, rfl⟩))
    go_ret
    exact ⟨by simp, hw2⟩
end Go.Proofs.Ytgiokifnapbflaa
