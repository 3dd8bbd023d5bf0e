/-
  Layer 6: what more than half have.
-/
import Derived.Test.YtlejbhgginolgaaQuorumA
import Derived.Test.YtlejbhgginolgaaQSort
import Derived.Test.YtlejbhgginolgaaBoxes
namespace Go.Proofs.Ytlejbhgginolgaa
open Go.RowKit
open Go.Sort
set_option linter.unusedVariables false
theorem intV_eq : intV = Value.int .i64 := rfl
/-- A row of the call's own, sorted. -/
theorem sortOwn_any (base : Nat) (a : Option Addr) (cap : Nat) (ns : List Int) (w : World) (hown : w.ownsRow base 3 1 (.slice a ns.length cap) ns.length (ns.map intV)) (h0 : 0 < ns.length) (hm : ns.length ≤ 1000000) :
    Calls Try.prog 56 #[.slice a ns.length cap] w fun e w' => e = .returned (.tuple #[]) ∧ w'.ownsRow base 3 1 (.slice a ns.length cap) ns.length ((sortI ns).map intV) ∧ Below base w w' := by
  rcases hown.2 with ⟨_, h⟩ | ⟨g, cap', cur, hv, hb, hh, hn, hc, hs, ht⟩
  · omega
  · injection hv with h1 h2 h3
    subst h1 h3
    have hlt : g < w.heap.size := blk_lt hh
    rw [Nat.mul_one] at ht
    refine (sort_any g 0 cap ns w (holds_of_blockI hh (by rw [ht]; rfl)) hlt (by omega)).mono ?_
    rintro e w' ⟨rfl, n, os, rfl⟩
    refine ⟨rfl, ownsRow_sortedI (ss := ns) (sortI_length ns) hb hh hn hc hs, ?_⟩
    exact (Below.refl base w).grown (grownBy_sortedI _) (by omega) (fun k hk => by cases hk; exact hb)
set_option maxHeartbeats 1600000 in
theorem cloneI_any (a : Option Addr) (cap : Nat) (ns : List Int) (w : World) (hr : CellsI w a ns) (hz : a = none → ns.length = 0) (hl : ns.length ≤ 1000000) :
    Calls Try.prog 55 #[.slice a ns.length cap] w (RetRow 3 1 ns.length (ns.map intV) w) := by
  rcases a with _ | ad
  · obtain rfl := List.eq_nil_of_length_eq_zero (hz rfl)
    have hnil : ∀ w, (binOp .eql 81 (.slice none 0 cap) (.slice none 0 0)).run Try.prog w = .ok (.bool true) w := fun w => Lib.run_eql_slice_nil (P := Try.prog) w 81 3 none 0 cap 0 0 Try.underlying81
    clear hz hr hl
    go_enter Try.func55, Try.ntmps55
    go_wp2
    go_ret
    exact ⟨none, 0, rfl, World.ownsRow_nil _ _ _ _, Below.refl _ _⟩
  · clear hz
    have hnil : ∀ w, (binOp .eql 81 (.slice (some ad) ns.length cap) (.slice none 0 0)).run Try.prog w = .ok (.bool false) w := fun w => Lib.run_eql_slice_nil (P := Try.prog) w 81 3 (some ad) ns.length cap 0 0 Try.underlying81
    go_enter Try.func55, Try.ntmps55
    go_wp2_with (at_builtin; refine wpList_append_row rfl (.tmp 5) (.tmp 6) rfl elemI w.heap.size _ 0 [] (by rfl) (World.ownsRow_lit w #[] 0 (Nat.le_refl _) (by unfold maxLen; omega) (by rfl)) _ _ _ (ns.map intV) (by rfl) (by simp) (RowAt.alloc hr _) (intV_one _) (by unfold maxLen; omega) (by omega) (by simp) (by simp) ?_; intro a' c' w1 hown hg hat)
    simp only [Nat.zero_add, List.nil_append] at hown ⊢
    have hbw : Below w.heap.size w w1 := Below.appended ((Below.refl _ _).alloc (Nat.le_refl _) _) (World.ownsRow_lit (e := 3) (size := 1) w #[] 0 (Nat.le_refl _) (by unfold maxLen; omega) (by rfl)) hg (by simp) (Nat.le_refl _)
    go_wp2
    go_ret
    exact ⟨a', c', rfl, hown, hbw⟩
set_option maxHeartbeats 1600000 in
theorem most_any (a : Option Addr) (cap : Nat) (ns : List Int) (w : World) (hr : CellsI w a ns) (hz : a = none → ns.length = 0) (hl : ns.length ≤ 1000000) :
    Calls Try.prog 51 #[.slice a ns.length cap] w fun e w' => e = .returned (.int .i64 (mostL ns)) ∧ Below w.heap.size w w' := by
  by_cases h0 : ns.length = 0
  · obtain rfl := List.eq_nil_of_length_eq_zero h0
    clear hr hz hl h0
    go_enter Try.func51, Try.ntmps51
    go_wp2
    go_ret
    exact ⟨rfl, Below.refl _ _⟩
  · have hp : 0 < ns.length := by omega
    have HC := Lib.hid (cloneI_any a cap ns w hr hz hl)
    have HS : Hid (∀ W base A c, W.ownsRow base 3 1 (.slice A ns.length c) ns.length (ns.map intV) → Calls Try.prog 56 #[.slice A ns.length c] W fun e w' => e = .returned (.tuple #[]) ∧ w'.ownsRow base 3 1 (.slice A ns.length c) ns.length ((sortI ns).map intV) ∧ Below base W w') := fun W base A c h => sortOwn_any base A c ns W h hp hl
    have hq : majN ns.length ≤ ns.length ∧ 0 < majN ns.length := by unfold majN; omega
    have HM : Hid (∀ W, Calls Try.prog 44 #[.int .i64 (ns.length : Int)] W fun e w' => e = .returned (.int .i64 (majN ns.length : Nat)) ∧ W = w') := fun W => by
      have := majority_any (ns.length : Int) (by omega) (by omega) W
      rw [if_neg (by omega)] at this
      unfold majN
      rwa [show ((ns.length / 2 + 1 : Nat) : Int) = (ns.length : Int) / 2 + 1 by omega]
    have hlen := sortI_length ns
    have HV : Hid (mostL ns = (sortI ns).getD (ns.length - majN ns.length) 0) := if_neg h0
    generalize majN ns.length = q at hq HM HV
    have hl0 : ((ns.length : Int) == 0) = false := by rw [beq_eq_false_iff_ne]; omega
    have hk0 : (0 : Int) ≤ (ns.length : Int) - (q : Int) := by omega
    have hk1 : (ns.length : Int) - (q : Int) < (ns.length : Int) := by omega
    have hk2 : ((ns.length : Int) - (q : Int)).toNat = ns.length - q := by omega
    have hql : ns.length - q < (sortI ns).length := by omega
    have HQ := Lib.hid hql
    clear hr hz h0 hlen hql
    generalize sortI ns = S at HS HV HQ
    go_enter Try.func51, Try.ntmps51
    go_wp2_with (first
      | (go_at_call 55; refine (HC.out).mono ?_; rintro e w1 ⟨a1, c1, rfl, own1, hb1⟩)
      | (go_at_call 56; refine (HS.out _ _ _ _ own1).mono ?_; rintro e w2 ⟨rfl, own2, hb2⟩; have hw2 := hb1.trans hb2; obtain ⟨g, off, rfl, hglt, hcell⟩ := CellsI.at (ns := S) (RowAt.of_own own2) HQ.out)
      | (go_at_call 44; refine (HM.out _).mono ?_; rintro e w3 ⟨rfl, rfl⟩))
    go_ret
    rw [HV.out]
    exact ⟨by rw [List.getD_eq_getElem?_getD, List.getElem?_eq_getElem HQ.out]; rfl, hw2⟩
end Go.Proofs.Ytlejbhgginolgaa
