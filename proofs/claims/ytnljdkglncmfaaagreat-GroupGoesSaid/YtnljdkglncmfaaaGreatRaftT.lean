/-
  The chapter's example.
-/
import Derived.Test.YtnljdkglncmfaaaGreatRaftS
import Derived.Test.YtnljdkglncmfaaaGreatBh
namespace Go.Proofs.YtnljdkglncmfaaaGreat
open Go.RowKit
set_option linter.unusedVariables false
theorem exNew : newOk 1 1 0 0 0 0 [] = true := by decide
theorem exOk : MbOk (newMb 1 1 0 0 []) := (newMb_ok exNew).2
theorem exTime : (newMb 1 1 0 0 []).timeout = (⟨1, 1, 1, [(1, 0, 0, 0, 0, 0, 0)], 2, 1, [1], [(1, 1)]⟩, []) := by
  have h1 : (newMb 1 1 0 0 []).stand = ⟨1, 1, 1, [], 1, 0, [1], [(0, 0)]⟩ := rfl
  have h2 : (newMb 1 1 0 0 []).stand.won = true := by rw [h1]; rfl
  have h3 : (newMb 1 1 0 0 []).stand.lead = ⟨1, 1, 1, [(1, 0, 0, 0, 0, 0, 0)], 2, 1, [1], [(1, 1)]⟩ := by
    rw [h1]
    have e1 : (⟨1, 1, 1, [], 1, 0, [1], [(0, 0)]⟩ : Mb).clear = ⟨1, 1, 1, [], 2, 0, [1], [(0, 1)]⟩ := by
      unfold Mb.clear
      rw [show (lastF 0 0 ([] : List En)) = (0, 0) by rw [lastF_may (by decide)]; rfl]
      rfl
    have e2 : (⟨1, 1, 1, [], 2, 0, [1], [(0, 1)]⟩ : Mb).put (0, 0, 0, 0, 0, 0) = ⟨1, 1, 1, [(1, 0, 0, 0, 0, 0, 0)], 2, 0, [1], [(0, 1)]⟩ := rfl
    have hm : mayL 0 0 [((1 : Int), (0 : Int), (0 : Int), (0 : Int), (0 : Int), (0 : Int), (0 : Int))] = true := by decide
    have e3 : (⟨1, 1, 1, [(1, 0, 0, 0, 0, 0, 0)], 2, 0, [1], [(0, 1)]⟩ : Mb).mark = ⟨1, 1, 1, [(1, 0, 0, 0, 0, 0, 0)], 2, 0, [1], [(1, 1)]⟩ := by
      unfold Mb.mark Mb.prAt
      rw [lastF_may hm]
      rfl
    have e4 : (⟨1, 1, 1, [(1, 0, 0, 0, 0, 0, 0)], 2, 0, [1], [(1, 1)]⟩ : Mb).settle = ⟨1, 1, 1, [(1, 0, 0, 0, 0, 0, 0)], 2, 1, [1], [(1, 1)]⟩ := by
      have hc : commitF 0 0 [((1 : Int), (0 : Int), (0 : Int), (0 : Int), (0 : Int), (0 : Int), (0 : Int))] [1] 1 0 = 1 := by
        unfold commitF
        rw [fairL_yes hm]
        have hmo : mostL [1] = 1 := by
          unfold mostL majN
          simp [sortI]
        rw [hmo]
        decide
      unfold Mb.settle
      simp only [List.map_cons, List.map_nil]
      rw [hc]
    unfold Mb.lead
    rw [e1, e2, e3, e4]
  unfold Mb.timeout
  rw [if_neg (by decide), if_pos h2, h3]
  rfl
theorem fieldLog (A : Option Addr) (n c : Nat) (W : World) : (Instr.field 55 (logV 0 0 A n c) 2).run Tryz.prog W = .ok (.slice A n c) W := by kernel_rfl
theorem fieldBallot (t v : Int) (W : World) : (Instr.field 34 (ballotV t v) 0).run Tryz.prog W = .ok (.int .i64 t) W := by kernel_rfl
end Go.Proofs.YtnljdkglncmfaaaGreat
