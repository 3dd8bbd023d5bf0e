/-
  Layer 5: who is a member, which ballot may be, a ballot behind a term.
-/
import Derived.Test.YtifbcdjabdfeeaaEntriesH
namespace Go.Proofs.Ytifbcdjabdfeeaa
open Go.RowKit
set_option linter.unusedVariables false
/-- A message: kind, from, to, term, index, its term, what is settled, yes, entries. -/
abbrev Mg := Int × Int × Int × Int × Int × Int × Int × Bool × List En
abbrev msgV (m : Mg) (a : Option Addr) (cap : Nat) : Value := .agg #[.int .i64 m.1, .int .i64 m.2.1, .int .i64 m.2.2.1, .int .i64 m.2.2.2.1, .int .i64 m.2.2.2.2.1, .int .i64 m.2.2.2.2.2.1, .int .i64 m.2.2.2.2.2.2.1, .bool m.2.2.2.2.2.2.2.1, .slice a m.2.2.2.2.2.2.2.2.length cap]
abbrev ballotV (t v : Int) : Value := .agg #[.int .i64 t, .int .i64 v]
/-- A ballot behind a message of a term. -/
def seeF (t v T : Int) : Int × Int := if t < T ∧ T ≤ 1073741824 then (T, 0) else (t, v)
def memberB (f : Int) : Bool := decide (1 ≤ f) && decide (f ≤ 16)
def mayV (t v : Int) : Bool := decide (0 ≤ t) && decide (t ≤ 1073741824) && (v == 0 || memberB v)
theorem member_any (f : Int) (w : World) : Calls Try.prog 40 #[.int .i64 f] w fun e w' => e = .returned (.bool (memberB f)) ∧ w' = w := by
  unfold memberB
  go_enter Try.func40, Try.ntmps40
  go_wp2
  all_goals (go_ret; refine ⟨ret_bool ?_, rfl⟩)
  all_goals (simp_all; try omega)
theorem see_any (t v T : Int) (w : World) : Calls Try.prog 19 #[ballotV t v, .int .i64 T] w fun e w' => e = .returned (ballotV (seeF t v T).1 (seeF t v T).2) ∧ Below w.heap.size w w' := by
  by_cases h : t < T ∧ T ≤ 1073741824
  · rw [show seeF t v T = (T, 0) from if_pos h]
    obtain ⟨h1, h2⟩ := h
    go_enter Try.func19, Try.ntmps19
    go_wp2
    refine bodyPost_ret (v := ballotV T 0) (by simp [results, Try.results19, go_sem]) rfl ?_
    exact ⟨rfl, below2 _ _ _⟩
  · rw [show seeF t v T = (t, v) from if_neg h]
    have h1 : T ≤ t ∨ 1073741824 < T := by omega
    clear h
    by_cases h2 : T ≤ t
    · clear h1
      go_enter Try.func19, Try.ntmps19
      go_wp2
      refine bodyPost_ret (v := ballotV t v) (by simp [results, Try.results19, go_sem]) rfl ?_
      exact ⟨rfl, below2 _ _ _⟩
    · have h3 : 1073741824 < T := by omega
      clear h1
      go_enter Try.func19, Try.ntmps19
      go_wp2
      refine bodyPost_ret (v := ballotV t v) (by simp [results, Try.results19, go_sem]) rfl ?_
      exact ⟨rfl, below2 _ _ _⟩
theorem refSee_any (t v T : Int) (w : World) : Calls Try.prog 21 #[ballotV t v, .int .i64 T] w fun e w' => e = .returned (ballotV (seeF t v T).1 (seeF t v T).2) ∧ Below w.heap.size w w' := by
  by_cases h : t < T ∧ T ≤ 1073741824
  · rw [show seeF t v T = (T, 0) from if_pos h]
    obtain ⟨h1, h2⟩ := h
    go_enter Try.func21, Try.ntmps21
    go_wp2
    refine bodyPost_ret (v := ballotV T 0) (by simp [results, Try.results21, go_sem]) rfl ?_
    exact ⟨rfl, below2 _ _ _⟩
  · rw [show seeF t v T = (t, v) from if_neg h]
    have h1 : T ≤ t ∨ 1073741824 < T := by omega
    clear h
    by_cases h2 : T ≤ t
    · clear h1
      go_enter Try.func21, Try.ntmps21
      go_wp2
      refine bodyPost_ret (v := ballotV t v) (by simp [results, Try.results21, go_sem]) rfl ?_
      exact ⟨rfl, below2 _ _ _⟩
    · have h3 : 1073741824 < T := by omega
      clear h1
      go_enter Try.func21, Try.ntmps21
      go_wp2
      refine bodyPost_ret (v := ballotV t v) (by simp [results, Try.results21, go_sem]) rfl ?_
      exact ⟨rfl, below2 _ _ _⟩
set_option maxHeartbeats 1600000 in
theorem mayV_any (t v : Int) (w : World) : Calls Try.prog 22 #[ballotV t v] w fun e w' => e = .returned (.bool (mayV t v)) ∧ Below w.heap.size w w' := by
  have HM : Hid (∀ W, Calls Try.prog 40 #[.int .i64 v] W fun e w' => e = .returned (.bool (memberB v)) ∧ w' = W) := fun W => member_any v W
  unfold mayV
  generalize memberB v = m at HM
  go_enter Try.func22, Try.ntmps22
  go_wp2_with (go_at_call 40; refine (HM.out _).mono ?_; rintro e w1 ⟨rfl, rfl⟩)
  all_goals (go_ret; refine ⟨ret_bool ?_, below1 _ _⟩)
  all_goals (simp_all; try omega)
set_option maxHeartbeats 1600000 in
theorem refMayV_any (t v : Int) (w : World) : Calls Try.prog 23 #[ballotV t v] w fun e w' => e = .returned (.bool (mayV t v)) ∧ Below w.heap.size w w' := by
  have HM : Hid (mayV t v = (decide (0 ≤ t) && decide (t ≤ 1073741824) && decide (0 ≤ v) && decide (v ≤ 16))) := by
    unfold mayV memberB
    rw [Hid, Bool.eq_iff_iff]
    simp only [decide_eq_true_eq, Bool.and_eq_true, Bool.or_eq_true, beq_iff_eq]
    omega
  rw [HM.out]
  clear HM
  go_enter Try.func23, Try.ntmps23
  go_wp2
  all_goals (go_ret; refine ⟨ret_bool ?_, below1 _ _⟩)
  all_goals (simp_all; try omega)
end Go.Proofs.Ytifbcdjabdfeeaa
