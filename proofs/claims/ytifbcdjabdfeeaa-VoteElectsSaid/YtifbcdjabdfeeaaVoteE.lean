/-
  Layer 5's laws: VoteNewest.
-/
import Derived.Test.YtifbcdjabdfeeaaVoteD
namespace Go.Proofs.Ytifbcdjabdfeeaa
open Go.RowKit
set_option linter.unusedVariables false
set_option maxHeartbeats 1600000 in
theorem voteNewest_walk (t v b u : Int) (a : Option Addr) (cap : Nat) (es : List En) (m : Mg) (am : Option Addr) (cm : Nat) (w : World) (hl : LogIn w a cap es) :
    Calls Try.prog 3 #[ballotV t v, logV b u a es.length cap, msgV m am cm] w fun e w' => e = .returned (.bool true) ∧ Below w.heap.size w w' := by
  obtain ⟨k, f, o, T, I, LT, C, Y, L⟩ := m
  have HF : Hid (∀ W, Calls Try.prog 16 #[logV b u a es.length cap] W fun e w' => e = .returned (.bool (decide ((es.length : Int) ≤ 100))) ∧ Below W.heap.size W w') := fun W => few_any b u a es.length cap W
  have HG : Hid (∀ W, Below w.heap.size w W → Calls Try.prog 17 #[ballotV t v, logV b u a es.length cap, msgV (k, f, o, T, I, LT, C, Y, L) am cm] W fun e w' => e = .returned (.tuple #[ballotV (grantF t v b u es f T I LT).1 (grantF t v b u es f T I LT).2.1, .bool (grantF t v b u es f T I LT).2.2]) ∧ Below W.heap.size W w') := fun W h => grant_any t v b u a cap es _ am cm W (hl.below h)
  have HL : Hid (∀ W, Below w.heap.size w W → Calls Try.prog 18 #[logV b u a es.length cap] W fun e w' => e = .returned (.tuple #[.int .i64 (lastF b u es).1, .int .i64 (lastF b u es).2]) ∧ Below W.heap.size W w') := fun W h => last_any b u a cap es W (hl.below h)
  have HN : Hid ((grantF t v b u es f T I LT).2.2 = true → (lastF b u es).2 < LT ∨ LT = (lastF b u es).2 ∧ (lastF b u es).1 ≤ I) := by
    unfold grantF
    intro h
    by_cases hc : T = (seeF t v T).1 ∧ memberB f = true ∧ ((seeF t v T).2 = 0 ∨ (seeF t v T).2 = f) ∧ newerB I LT (lastF b u es).1 (lastF b u es).2 = true
    · have := hc.2.2.2
      unfold newerB at this
      rw [decide_eq_true_eq] at this
      omega
    · rw [if_neg hc] at h; cases h
  clear hl
  generalize grantF t v b u es f T I LT = G at HG HN
  generalize lastF b u es = li at HL HN
  obtain ⟨G1, G2, G3⟩ := G
  obtain ⟨li, lt⟩ := li
  simp only at HG HL HN
  generalize hn : es.length = n at HF HG HL ⊢
  clear hn
  generalize L.length = nl at HG ⊢
  by_cases h100 : (n : Int) ≤ 100
  · rw [decide_eq_true h100] at HF
    clear h100
    cases G3 with
    | false =>
      go_enter Try.func3, Try.ntmps3
      go_wp2_with (first
        | (go_at_call 15; refine (voteAwake_any _).mono ?_; rintro e w1 ⟨rfl, hb1⟩; obtain ⟨⟨g0, g1, g2⟩, hz, hw0⟩ := alloc3 w _ _ _; clear hz; replace hw0 := hw0.trans (hb1.mono hw0.size); replace g0 := blk_keep hb1 g0; replace g1 := blk_keep hb1 g1; replace g2 := blk_keep hb1 g2; obtain ⟨hc0, hc1, _, _, hlt0⟩ := box2 g0; obtain ⟨lc0, lc1, lc2, _, _, _, hlt1⟩ := box3 g1; obtain ⟨mc0, mc1, mc2, mc3, mc4, mc5, mc6, mc7, mc8⟩ := box9 g2)
        | (go_at_call 16; refine (HF.out _).mono ?_; rintro e w2 ⟨rfl, hb2⟩; replace hw0 := hw0.trans (hb2.mono hw0.size); replace g0 := blk_keep hb2 g0; replace g1 := blk_keep hb2 g1; replace g2 := blk_keep hb2 g2; obtain ⟨hc0, hc1, _, _, hlt0⟩ := box2 g0; obtain ⟨lc0, lc1, lc2, _, _, _, hlt1⟩ := box3 g1; obtain ⟨mc0, mc1, mc2, mc3, mc4, mc5, mc6, mc7, mc8⟩ := box9 g2)
        | (go_at_call 17; refine (HG.out _ hw0).mono ?_; rintro e w3 ⟨rfl, hb3⟩; replace hw0 := hw0.trans (hb3.mono hw0.size); replace g0 := blk_keep hb3 g0; replace g1 := blk_keep hb3 g1; replace g2 := blk_keep hb3 g2; obtain ⟨hc0, hc1, _, _, hlt0⟩ := box2 g0; obtain ⟨lc0, lc1, lc2, _, _, _, hlt1⟩ := box3 g1; obtain ⟨mc0, mc1, mc2, mc3, mc4, mc5, mc6, mc7, mc8⟩ := box9 g2; replace hw0 := hw0.alloc hw0.size (.cells #[.int .i64 G1, .int .i64 G2] 23); replace g0 := blk_alloc g0 (.cells #[.int .i64 G1, .int .i64 G2] 23); replace g1 := blk_alloc g1 (.cells #[.int .i64 G1, .int .i64 G2] 23); replace g2 := blk_alloc g2 (.cells #[.int .i64 G1, .int .i64 G2] 23))
        | (go_at_call 18; refine (HL.out _ hw0).mono ?_; rintro e w4 ⟨rfl, hb4⟩; replace hw0 := hw0.trans (hb4.mono hw0.size); replace g0 := blk_keep hb4 g0; replace g1 := blk_keep hb4 g1; replace g2 := blk_keep hb4 g2; obtain ⟨hc0, hc1, _, _, hlt0⟩ := box2 g0; obtain ⟨lc0, lc1, lc2, _, _, _, hlt1⟩ := box3 g1; obtain ⟨mc0, mc1, mc2, mc3, mc4, mc5, mc6, mc7, mc8⟩ := box9 g2))
      go_ret
      exact ⟨rfl, hw0⟩
    | true =>
      have hN := HN.out rfl
      rcases hN with hN | ⟨hN, hN2⟩
      · go_enter Try.func3, Try.ntmps3
        go_wp2_with (first
          | (go_at_call 15; refine (voteAwake_any _).mono ?_; rintro e w1 ⟨rfl, hb1⟩; obtain ⟨⟨g0, g1, g2⟩, hz, hw0⟩ := alloc3 w _ _ _; clear hz; replace hw0 := hw0.trans (hb1.mono hw0.size); replace g0 := blk_keep hb1 g0; replace g1 := blk_keep hb1 g1; replace g2 := blk_keep hb1 g2; obtain ⟨hc0, hc1, _, _, hlt0⟩ := box2 g0; obtain ⟨lc0, lc1, lc2, _, _, _, hlt1⟩ := box3 g1; obtain ⟨mc0, mc1, mc2, mc3, mc4, mc5, mc6, mc7, mc8⟩ := box9 g2)
          | (go_at_call 16; refine (HF.out _).mono ?_; rintro e w2 ⟨rfl, hb2⟩; replace hw0 := hw0.trans (hb2.mono hw0.size); replace g0 := blk_keep hb2 g0; replace g1 := blk_keep hb2 g1; replace g2 := blk_keep hb2 g2; obtain ⟨hc0, hc1, _, _, hlt0⟩ := box2 g0; obtain ⟨lc0, lc1, lc2, _, _, _, hlt1⟩ := box3 g1; obtain ⟨mc0, mc1, mc2, mc3, mc4, mc5, mc6, mc7, mc8⟩ := box9 g2)
          | (go_at_call 17; refine (HG.out _ hw0).mono ?_; rintro e w3 ⟨rfl, hb3⟩; replace hw0 := hw0.trans (hb3.mono hw0.size); replace g0 := blk_keep hb3 g0; replace g1 := blk_keep hb3 g1; replace g2 := blk_keep hb3 g2; obtain ⟨hc0, hc1, _, _, hlt0⟩ := box2 g0; obtain ⟨lc0, lc1, lc2, _, _, _, hlt1⟩ := box3 g1; obtain ⟨mc0, mc1, mc2, mc3, mc4, mc5, mc6, mc7, mc8⟩ := box9 g2; replace hw0 := hw0.alloc hw0.size (.cells #[.int .i64 G1, .int .i64 G2] 23); replace g0 := blk_alloc g0 (.cells #[.int .i64 G1, .int .i64 G2] 23); replace g1 := blk_alloc g1 (.cells #[.int .i64 G1, .int .i64 G2] 23); replace g2 := blk_alloc g2 (.cells #[.int .i64 G1, .int .i64 G2] 23))
          | (go_at_call 18; refine (HL.out _ hw0).mono ?_; rintro e w4 ⟨rfl, hb4⟩; replace hw0 := hw0.trans (hb4.mono hw0.size); replace g0 := blk_keep hb4 g0; replace g1 := blk_keep hb4 g1; replace g2 := blk_keep hb4 g2; obtain ⟨hc0, hc1, _, _, hlt0⟩ := box2 g0; obtain ⟨lc0, lc1, lc2, _, _, _, hlt1⟩ := box3 g1; obtain ⟨mc0, mc1, mc2, mc3, mc4, mc5, mc6, mc7, mc8⟩ := box9 g2))
        go_ret
        exact ⟨rfl, hw0⟩
      · subst hN
        go_enter Try.func3, Try.ntmps3
        go_wp2_with (first
          | (go_at_call 15; refine (voteAwake_any _).mono ?_; rintro e w1 ⟨rfl, hb1⟩; obtain ⟨⟨g0, g1, g2⟩, hz, hw0⟩ := alloc3 w _ _ _; clear hz; replace hw0 := hw0.trans (hb1.mono hw0.size); replace g0 := blk_keep hb1 g0; replace g1 := blk_keep hb1 g1; replace g2 := blk_keep hb1 g2; obtain ⟨hc0, hc1, _, _, hlt0⟩ := box2 g0; obtain ⟨lc0, lc1, lc2, _, _, _, hlt1⟩ := box3 g1; obtain ⟨mc0, mc1, mc2, mc3, mc4, mc5, mc6, mc7, mc8⟩ := box9 g2)
          | (go_at_call 16; refine (HF.out _).mono ?_; rintro e w2 ⟨rfl, hb2⟩; replace hw0 := hw0.trans (hb2.mono hw0.size); replace g0 := blk_keep hb2 g0; replace g1 := blk_keep hb2 g1; replace g2 := blk_keep hb2 g2; obtain ⟨hc0, hc1, _, _, hlt0⟩ := box2 g0; obtain ⟨lc0, lc1, lc2, _, _, _, hlt1⟩ := box3 g1; obtain ⟨mc0, mc1, mc2, mc3, mc4, mc5, mc6, mc7, mc8⟩ := box9 g2)
          | (go_at_call 17; refine (HG.out _ hw0).mono ?_; rintro e w3 ⟨rfl, hb3⟩; replace hw0 := hw0.trans (hb3.mono hw0.size); replace g0 := blk_keep hb3 g0; replace g1 := blk_keep hb3 g1; replace g2 := blk_keep hb3 g2; obtain ⟨hc0, hc1, _, _, hlt0⟩ := box2 g0; obtain ⟨lc0, lc1, lc2, _, _, _, hlt1⟩ := box3 g1; obtain ⟨mc0, mc1, mc2, mc3, mc4, mc5, mc6, mc7, mc8⟩ := box9 g2; replace hw0 := hw0.alloc hw0.size (.cells #[.int .i64 G1, .int .i64 G2] 23); replace g0 := blk_alloc g0 (.cells #[.int .i64 G1, .int .i64 G2] 23); replace g1 := blk_alloc g1 (.cells #[.int .i64 G1, .int .i64 G2] 23); replace g2 := blk_alloc g2 (.cells #[.int .i64 G1, .int .i64 G2] 23))
          | (go_at_call 18; refine (HL.out _ hw0).mono ?_; rintro e w4 ⟨rfl, hb4⟩; replace hw0 := hw0.trans (hb4.mono hw0.size); replace g0 := blk_keep hb4 g0; replace g1 := blk_keep hb4 g1; replace g2 := blk_keep hb4 g2; obtain ⟨hc0, hc1, _, _, hlt0⟩ := box2 g0; obtain ⟨lc0, lc1, lc2, _, _, _, hlt1⟩ := box3 g1; obtain ⟨mc0, mc1, mc2, mc3, mc4, mc5, mc6, mc7, mc8⟩ := box9 g2))
        go_ret
        exact ⟨rfl, hw0⟩
  · rw [decide_eq_false h100] at HF
    clear h100
    go_enter Try.func3, Try.ntmps3
    go_wp2_with (first
      | (go_at_call 15; refine (voteAwake_any _).mono ?_; rintro e w1 ⟨rfl, hb1⟩; obtain ⟨⟨g0, g1, g2⟩, hz, hw0⟩ := alloc3 w _ _ _; clear hz; replace hw0 := hw0.trans (hb1.mono hw0.size); replace g0 := blk_keep hb1 g0; replace g1 := blk_keep hb1 g1; replace g2 := blk_keep hb1 g2; obtain ⟨hc0, hc1, _, _, hlt0⟩ := box2 g0; obtain ⟨lc0, lc1, lc2, _, _, _, hlt1⟩ := box3 g1; obtain ⟨mc0, mc1, mc2, mc3, mc4, mc5, mc6, mc7, mc8⟩ := box9 g2)
      | (go_at_call 16; refine (HF.out _).mono ?_; rintro e w2 ⟨rfl, hb2⟩; replace hw0 := hw0.trans (hb2.mono hw0.size); replace g0 := blk_keep hb2 g0; replace g1 := blk_keep hb2 g1; replace g2 := blk_keep hb2 g2; obtain ⟨hc0, hc1, _, _, hlt0⟩ := box2 g0; obtain ⟨lc0, lc1, lc2, _, _, _, hlt1⟩ := box3 g1; obtain ⟨mc0, mc1, mc2, mc3, mc4, mc5, mc6, mc7, mc8⟩ := box9 g2)
      | (go_at_call 17; refine (HG.out _ hw0).mono ?_; rintro e w3 ⟨rfl, hb3⟩; replace hw0 := hw0.trans (hb3.mono hw0.size); replace g0 := blk_keep hb3 g0; replace g1 := blk_keep hb3 g1; replace g2 := blk_keep hb3 g2; obtain ⟨hc0, hc1, _, _, hlt0⟩ := box2 g0; obtain ⟨lc0, lc1, lc2, _, _, _, hlt1⟩ := box3 g1; obtain ⟨mc0, mc1, mc2, mc3, mc4, mc5, mc6, mc7, mc8⟩ := box9 g2; replace hw0 := hw0.alloc hw0.size (.cells #[.int .i64 G1, .int .i64 G2] 23); replace g0 := blk_alloc g0 (.cells #[.int .i64 G1, .int .i64 G2] 23); replace g1 := blk_alloc g1 (.cells #[.int .i64 G1, .int .i64 G2] 23); replace g2 := blk_alloc g2 (.cells #[.int .i64 G1, .int .i64 G2] 23))
      | (go_at_call 18; refine (HL.out _ hw0).mono ?_; rintro e w4 ⟨rfl, hb4⟩; replace hw0 := hw0.trans (hb4.mono hw0.size); replace g0 := blk_keep hb4 g0; replace g1 := blk_keep hb4 g1; replace g2 := blk_keep hb4 g2; obtain ⟨hc0, hc1, _, _, hlt0⟩ := box2 g0; obtain ⟨lc0, lc1, lc2, _, _, _, hlt1⟩ := box3 g1; obtain ⟨mc0, mc1, mc2, mc3, mc4, mc5, mc6, mc7, mc8⟩ := box9 g2))
    go_ret
    exact ⟨rfl, hw0⟩
end Go.Proofs.Ytifbcdjabdfeeaa
