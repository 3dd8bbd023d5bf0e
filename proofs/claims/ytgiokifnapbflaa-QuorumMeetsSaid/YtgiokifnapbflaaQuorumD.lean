/-
  Layer 6: the chapter's examples.
-/
import Derived.Test.YtgiokifnapbflaaQuorumC
namespace Go.Proofs.Ytgiokifnapbflaa
open Go.RowKit
set_option linter.unusedVariables false
def qaL : List En := [(1, 0, 0, 0, 0, 0, 0), (1, 0, 0, 0, 0, 0, 0), (2, 0, 0, 0, 0, 0, 0)]
theorem qa_most1 : mostL [5, 3, 7] = 5 := (most_unique (ns := [5, 3, 7]) (by decide) (b := 5) (by unfold enough; decide) (fun m hm h => by
  simp at hm
  rcases hm with rfl | rfl | rfl
  · decide
  · decide
  · exact (by unfold enough at h; revert h; decide))).symm
theorem qa_most2 : mostL [3, 3, 1] = 3 := (most_unique (ns := [3, 3, 1]) (by decide) (b := 3) (by unfold enough; decide) (fun m hm h => by
  simp at hm
  rcases hm with rfl | rfl <;> decide)).symm
theorem qa_fair : fairL 0 0 qaL = (0, 0, qaL) := fairL_yes (by decide)
theorem qa_com1 : commitF 0 0 qaL [3, 3, 1] 2 0 = 3 := by
  unfold commitF
  rw [qa_fair, qa_most2]
  exact commitAt_hit (B := 0) (T := 0) (l := qaL) (by decide) (by decide) (by decide)
theorem qa_com2 : commitF 0 0 qaL [3, 3, 1] 1 2 = 2 := by
  unfold commitF
  rw [qa_fair, qa_most2]
  show commitAt 0 0 qaL 1 2 3 = 2
  rw [commitAt_next (by decide) (by decide) (by decide)]
  exact commitAt_done (by decide) (by decide)
theorem cellsI_new (w : World) (x y z : Int) : CellsI (w.alloc (.cells #[.int .i64 x, .int .i64 y, .int .i64 z] 3)) (some ⟨w.heap.size, 0, none⟩) [x, y, z] := RowAt.new w #[.int .i64 x, .int .i64 y, .int .i64 z] 3
set_option maxRecDepth 100000 in
set_option maxHeartbeats 3200000 in
theorem quorumAwake_any (w : World) : Calls Try.prog 7 #[] w fun e w' => e = .returned (.bool true) ∧ Below w.heap.size w w' := by
  have HMa : Hid (∀ W, Calls Try.prog 8 #[.int .i64 4] W fun e w' => e = .returned (.int .i64 3) ∧ W = w') := fun W => majority_any 4 (by decide) (by decide) W
  have HMo : Hid (∀ W, Calls Try.prog 12 #[.slice (some ⟨W.heap.size, 0, none⟩) 3 3] (W.alloc (.cells #[.int .i64 5, .int .i64 3, .int .i64 7] 3)) fun e w' => e = .returned (.int .i64 5) ∧ Below W.heap.size W w') := fun W => by
    have := most_any (some ⟨W.heap.size, 0, none⟩) 3 [5, 3, 7] _ (cellsI_new W 5 3 7) (fun h => by cases h) (by decide)
    rw [qa_most1] at this
    exact this.mono fun e w' h => ⟨h.1, alloc_below h.2⟩
  have HC : Hid (∀ W A term settled, LogIn W A 3 qaL → Calls Try.prog 14 #[.agg #[.int .i64 0, .int .i64 0, .slice A 3 3], .slice (some ⟨W.heap.size, 0, none⟩) 3 3, .int .i64 term, .int .i64 settled] (W.alloc (.cells #[.int .i64 3, .int .i64 3, .int .i64 1] 3)) fun e w' => e = .returned (.int .i64 (commitF 0 0 qaL [3, 3, 1] term settled)) ∧ Below W.heap.size W w') := fun W A term settled h => by
    have := commit_any 0 0 A 3 qaL (some ⟨W.heap.size, 0, none⟩) 3 [3, 3, 1] term settled _ (h.below (below1 W (.cells #[.int .i64 3, .int .i64 3, .int .i64 1] 3))) ⟨cellsI_new W 3 3 1, by decide, (fun h => by cases h), fun n hn => by simp at hn; rcases hn with rfl | rfl <;> decide⟩ (by decide)
    exact this.mono fun e w' h => ⟨h.1, alloc_below h.2⟩
  have HC1 : Hid (∀ W A, LogIn W A 3 qaL → Calls Try.prog 14 #[.agg #[.int .i64 0, .int .i64 0, .slice A 3 3], .slice (some ⟨W.heap.size, 0, none⟩) 3 3, .int .i64 2, .int .i64 0] (W.alloc (.cells #[.int .i64 3, .int .i64 3, .int .i64 1] 3)) fun e w' => e = .returned (.int .i64 3) ∧ Below W.heap.size W w') := fun W A h => by
    have := HC.out W A 2 0 h
    rwa [qa_com1] at this
  have HC2 : Hid (∀ W A, LogIn W A 3 qaL → Calls Try.prog 14 #[.agg #[.int .i64 0, .int .i64 0, .slice A 3 3], .slice (some ⟨W.heap.size, 0, none⟩) 3 3, .int .i64 1, .int .i64 2] (W.alloc (.cells #[.int .i64 3, .int .i64 3, .int .i64 1] 3)) fun e w' => e = .returned (.int .i64 2) ∧ Below W.heap.size W w') := fun W A h => by
    have := HC.out W A 1 2 h
    rwa [qa_com2] at this
  clear HC
  have hle : LogIn (w.alloc (.cells #[.int .i64 1, .int .i64 0, .int .i64 0, .int .i64 0, .int .i64 0, .int .i64 0, .int .i64 0, .int .i64 1, .int .i64 0, .int .i64 0, .int .i64 0, .int .i64 0, .int .i64 0, .int .i64 0, .int .i64 2, .int .i64 0, .int .i64 0, .int .i64 0, .int .i64 0, .int .i64 0, .int .i64 0] 35)) (some ⟨w.heap.size, 0, none⟩) 3 qaL := ⟨RowAt.new w #[.int .i64 1, .int .i64 0, .int .i64 0, .int .i64 0, .int .i64 0, .int .i64 0, .int .i64 0, .int .i64 1, .int .i64 0, .int .i64 0, .int .i64 0, .int .i64 0, .int .i64 0, .int .i64 0, .int .i64 2, .int .i64 0, .int .i64 0, .int .i64 0, .int .i64 0, .int .i64 0, .int .i64 0] 35, by decide, (fun h => by cases h), by decide⟩
  have hl0 := hle.below (below1 _ (.cells #[.int .i64 0, .int .i64 0, .slice (some ⟨w.heap.size, 0, none⟩) 3 3] 38))
  have hw0 := below2 w (.cells #[.int .i64 1, .int .i64 0, .int .i64 0, .int .i64 0, .int .i64 0, .int .i64 0, .int .i64 0, .int .i64 1, .int .i64 0, .int .i64 0, .int .i64 0, .int .i64 0, .int .i64 0, .int .i64 0, .int .i64 2, .int .i64 0, .int .i64 0, .int .i64 0, .int .i64 0, .int .i64 0, .int .i64 0] 35) (.cells #[.int .i64 0, .int .i64 0, .slice (some ⟨w.heap.size, 0, none⟩) 3 3] 38)
  have g0 := alloc2_snd w (.cells #[.int .i64 1, .int .i64 0, .int .i64 0, .int .i64 0, .int .i64 0, .int .i64 0, .int .i64 0, .int .i64 1, .int .i64 0, .int .i64 0, .int .i64 0, .int .i64 0, .int .i64 0, .int .i64 0, .int .i64 2, .int .i64 0, .int .i64 0, .int .i64 0, .int .i64 0, .int .i64 0, .int .i64 0] 35) (.cells #[.int .i64 0, .int .i64 0, .slice (some ⟨w.heap.size, 0, none⟩) 3 3] 38)
  obtain ⟨lc0, lc1, lc2, _, _, _, llt⟩ := box3 g0
  clear hle
  go_enter Try.func7, Try.ntmps7
  go_upto_region 2 with fail
  generalize (w.alloc (.cells #[.int .i64 1, .int .i64 0, .int .i64 0, .int .i64 0, .int .i64 0, .int .i64 0, .int .i64 0, .int .i64 1, .int .i64 0, .int .i64 0, .int .i64 0, .int .i64 0, .int .i64 0, .int .i64 0, .int .i64 2, .int .i64 0, .int .i64 0, .int .i64 0, .int .i64 0, .int .i64 0, .int .i64 0] 35)).alloc (.cells #[.int .i64 0, .int .i64 0, .slice (some ⟨w.heap.size, 0, none⟩) 3 3] 38) = W0 at *
  generalize (some (⟨w.heap.size, 0, none⟩ : Addr)) = A0 at *
  generalize w.heap.size + 1 = F0 at *
  go_wp2_with (first
    | (go_at_call 8; refine (HMa.out _).mono ?_; rintro e w1 ⟨rfl, rfl⟩)
    | (go_at_call 12; refine (HMo.out _).mono ?_; rintro e w2 ⟨rfl, hb2⟩; replace hw0 := hw0.trans (hb2.mono hw0.size); replace g0 := blk_keep hb2 g0; have hl2 := hl0.below hb2; obtain ⟨lc0, lc1, lc2, _, _, _, llt⟩ := box3 g0)
    | (go_at_call 14; (with_reducible refine (HC1.out _ _ hl2).mono ?_); rintro e w3 ⟨rfl, hb3⟩; replace hw0 := hw0.trans (hb3.mono hw0.size); replace g0 := blk_keep hb3 g0; have hl3 := hl2.below hb3; obtain ⟨lc0, lc1, lc2, _, _, _, llt⟩ := box3 g0)
    | (go_at_call 14; (with_reducible refine (HC2.out _ _ hl3).mono ?_); rintro e w4 ⟨rfl, hb4⟩; replace hw0 := hw0.trans (hb4.mono hw0.size)))
  go_ret
  exact ⟨rfl, hw0⟩
end Go.Proofs.Ytgiokifnapbflaa
