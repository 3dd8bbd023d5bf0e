/-
  The chapter's example.
-/
import Derived.Test.YtlejbhgginolgaaRaftS
import Derived.Test.YtlejbhgginolgaaRaftI
namespace Go.Proofs.Ytlejbhgginolgaa
open Go.RowKit
set_option linter.unusedVariables false
theorem exNew : newOk 1 1 0 0 0 0 [] = true := by decide
theorem exOk : MbOk (newMb 1 1 0 0 []) := (newMb_ok exNew).2
theorem exTime : (newMb 1 1 0 0 []).timeout = (⟨1, 1, 1, [(1, 0, 0, 0, 0, 0, 0)], 2, 1, [1], [(1, 1)]⟩, []) := by
  have h1 : (newMb 1 1 0 0 []).stand = ⟨1, 1, 1, [], 1, 0, [1], [(0, 0)]⟩ := rfl
  have h2 : (newMb 1 1 0 0 []).stand.won = true := by rw [h1]; rfl
  have h3 : (newMb 1 1 0 0 []).stand.lead = ⟨1, 1, 1, [(1, 0, 0, 0, 0, 0, 0)], 2, 1, [1], [(1, 1)]⟩ := by
    rw [h1]
    have e1 : (⟨1, 1, 1, [], 1, 0, [1], [(0, 0)]⟩ : Mb).clear = ⟨1, 1, 1, [], 2, 0, [1], [(0, 1)]⟩ := by
      unfold Mb.clear
      rw [show (lastF 0 0 ([] : List En)) = (0, 0) by rw [lastF_may (by decide)]; rfl]
      rfl
    have e2 : (⟨1, 1, 1, [], 2, 0, [1], [(0, 1)]⟩ : Mb).put (0, 0, 0, 0, 0, 0) = ⟨1, 1, 1, [(1, 0, 0, 0, 0, 0, 0)], 2, 0, [1], [(0, 1)]⟩ := rfl
    have hm : mayL 0 0 [((1 : Int), (0 : Int), (0 : Int), (0 : Int), (0 : Int), (0 : Int), (0 : Int))] = true := by decide
    have e3 : (⟨1, 1, 1, [(1, 0, 0, 0, 0, 0, 0)], 2, 0, [1], [(0, 1)]⟩ : Mb).mark = ⟨1, 1, 1, [(1, 0, 0, 0, 0, 0, 0)], 2, 0, [1], [(1, 1)]⟩ := by
      unfold Mb.mark Mb.prAt
      rw [lastF_may hm]
      rfl
    have e4 : (⟨1, 1, 1, [(1, 0, 0, 0, 0, 0, 0)], 2, 0, [1], [(1, 1)]⟩ : Mb).settle = ⟨1, 1, 1, [(1, 0, 0, 0, 0, 0, 0)], 2, 1, [1], [(1, 1)]⟩ := by
      have hc : commitF 0 0 [((1 : Int), (0 : Int), (0 : Int), (0 : Int), (0 : Int), (0 : Int), (0 : Int))] [1] 1 0 = 1 := by
        unfold commitF
        rw [fairL_yes hm]
        have hmo : mostL [1] = 1 := by
          unfold mostL majN
          simp [sortI]
        rw [hmo]
        decide
      unfold Mb.settle
      simp only [List.map_cons, List.map_nil]
      rw [hc]
    unfold Mb.lead
    rw [e1, e2, e3, e4]
  unfold Mb.timeout
  rw [if_neg (by decide), if_pos h2, h3]
  rfl
theorem fieldLog (A : Option Addr) (n c : Nat) (W : World) : (Instr.field 26 (logV 0 0 A n c) 2).run Try.prog W = .ok (.slice A n c) W := by kernel_rfl
theorem fieldBallot (t v : Int) (W : World) : (Instr.field 23 (ballotV t v) 0).run Try.prog W = .ok (.int .i64 t) W := by kernel_rfl
set_option maxRecDepth 100000 in
set_option maxHeartbeats 6400000 in
theorem raftAwake_any (w : World) : Calls Try.prog 8 #[] w fun e w' => e = .returned (.bool true) ∧ Below w.heap.size w w' := by
  have HN : Hid (Calls Try.prog 9 #[.int .i64 1, .int .i64 1, ballotV 0 0, logV 0 0 none 0 0] w (RetNew (newMb 1 1 0 0 []) w)) := new_yes 1 0 0 1 none 0 [] w (LogIn.zero w) exNew
  have HT : Hid (∀ W b a, MAt W b a (newMb 1 1 0 0 []) → Calls Try.prog 10 #[.pointer (some ⟨b, 0, none⟩)] W (RetR ⟨1, 1, 1, [(1, 0, 0, 0, 0, 0, 0)], 2, 1, [1], [(1, 1)]⟩ [] b a W)) := fun W b a h => by have := timeout_any h exOk; rwa [exTime] at this
  generalize newMb 1 1 0 0 [] = m0 at HN HT
  have hfl := fieldLog
  have hfb := fieldBallot
  go_enter Try.func8, Try.ntmps8
  go_wp2_with (first
    | (go_at_call 9; refine HN.out.mono ?_; rintro e w1 ⟨b, a, rfl, H1, hF1, hb1⟩)
    | (go_at_call 10; refine (HT.out _ _ _ H1).mono ?_; rintro e w2 ⟨a2, B2, A2, c2, sl2, rfl, H2, S2, hB2, hf2, hms2⟩; have hw2 : Below w.heap.size w w2 := hb1.trans (S2.chg.to_below hF1 hb1.size); have HR := Lib.hid (role_any H2))
    | (go_at_call 12; refine HR.out.mono ?_; rintro e w3 ⟨rfl, hb3⟩; have hw3 := hw2.trans (hb3.mono hw2.size); have HSE := Lib.hid (settled_any (H2.below hb3)))
    | (go_at_call 15; refine HSE.out.mono ?_; rintro e w4 ⟨rfl, hb4⟩; have hw4 := hw3.trans (hb4.mono hw3.size); have HLG := Lib.hid (mlog_any ((H2.below hb3).below hb4) (by decide)))
    | (go_at_call 14; refine HLG.out.mono ?_; rintro e w5 ⟨A5, c5, rfl, own5, hb5⟩; have hw5 := hw4.trans (hb5.mono hw4.size); have HBA := Lib.hid (ballot_any (((H2.below hb3).below hb4).below hb5)))
    | (go_at_call 11; refine HBA.out.mono ?_; rintro e w6 ⟨rfl, hb6⟩; have hw6 := hw5.trans (hb6.mono hw5.size)))
  go_ret
  exact ⟨rfl, hw6⟩
end Go.Proofs.Ytlejbhgginolgaa
