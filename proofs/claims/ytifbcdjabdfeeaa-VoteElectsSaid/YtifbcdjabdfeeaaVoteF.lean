/-
  Layer 5's laws: VoteAgain.
-/
import Derived.Test.YtifbcdjabdfeeaaVoteE
namespace Go.Proofs.Ytifbcdjabdfeeaa
open Go.RowKit
set_option linter.unusedVariables false
theorem seeF_self (t v : Int) : seeF t v t = (t, v) := if_neg (by omega)
theorem grantF_see (t v b u : Int) (es : List En) (f T I LT : Int) : (grantF t v b u es f T I LT).1 = (seeF t v T).1 := by
  unfold grantF
  split <;> rfl
/-- Who asks once more is answered as it was. -/
theorem grantF_again (t v b u : Int) (es : List En) (f T I LT : Int) : grantF (grantF t v b u es f T I LT).1 (grantF t v b u es f T I LT).2.1 b u es f T I LT = grantF t v b u es f T I LT := by
  have hT : ∀ v', seeF (seeF t v T).1 v' T = ((seeF t v T).1, v') := fun v' => by
    unfold seeF
    by_cases h : t < T ∧ T ≤ 1073741824
    · rw [if_pos h, if_neg (by simp)]
    · rw [if_neg h, if_neg h]
  by_cases hc : T = (seeF t v T).1 ∧ memberB f = true ∧ ((seeF t v T).2 = 0 ∨ (seeF t v T).2 = f) ∧ newerB I LT (lastF b u es).1 (lastF b u es).2 = true
  · have h1 : grantF t v b u es f T I LT = ((seeF t v T).1, f, true) := if_pos hc
    rw [h1]
    unfold grantF
    simp only [hT]
    rw [if_pos ⟨hc.1, hc.2.1, by simp, hc.2.2.2⟩]
  · have h1 : grantF t v b u es f T I LT = ((seeF t v T).1, (seeF t v T).2, false) := if_neg hc
    rw [h1]
    unfold grantF
    simp only [hT]
    rw [if_neg hc]
theorem blk_drew {w : World} {F : Nat} {o : Obj} (h : w.heap[F]? = some o) : w.drew.heap[F]? = some o := h
set_option maxHeartbeats 3200000 in
theorem voteAgain_walk (t v b u : Int) (a : Option Addr) (cap : Nat) (es : List En) (m : Mg) (am : Option Addr) (cm : Nat) (w : World) (hl : LogIn w a cap es) :
    Calls Try.prog 4 #[ballotV t v, logV b u a es.length cap, msgV m am cm] w fun e w' => e = .returned (.bool true) ∧ Below w.heap.size w w' := by
  obtain ⟨k, f, o, T, I, LT, C, Y, L⟩ := m
  have HF : Hid (∀ W, Calls Try.prog 16 #[logV b u a es.length cap] W fun e w' => e = .returned (.bool (decide ((es.length : Int) ≤ 100))) ∧ Below W.heap.size W w') := fun W => few_any b u a es.length cap W
  have HG : Hid (∀ W, Below w.heap.size w W → Calls Try.prog 17 #[ballotV t v, logV b u a es.length cap, msgV (k, f, o, T, I, LT, C, Y, L) am cm] W fun e w' => e = .returned (.tuple #[ballotV (grantF t v b u es f T I LT).1 (grantF t v b u es f T I LT).2.1, .bool (grantF t v b u es f T I LT).2.2]) ∧ Below W.heap.size W w') := fun W h => grant_any t v b u a cap es _ am cm W (hl.below h)
  have HG2 : Hid (∀ W, Below w.heap.size w W → Calls Try.prog 17 #[ballotV (grantF t v b u es f T I LT).1 (grantF t v b u es f T I LT).2.1, logV b u a es.length cap, msgV (k, f, o, T, I, LT, C, Y, L) am cm] W fun e w' => e = .returned (.tuple #[ballotV (grantF t v b u es f T I LT).1 (grantF t v b u es f T I LT).2.1, .bool (grantF t v b u es f T I LT).2.2]) ∧ Below W.heap.size W w') := fun W h => by
    have := grant_any (grantF t v b u es f T I LT).1 (grantF t v b u es f T I LT).2.1 b u a cap es (k, f, o, T, I, LT, C, Y, L) am cm W (hl.below h)
    simp only at this
    rwa [grantF_again] at this
  have HS : Hid (∀ W, Calls Try.prog 19 #[ballotV (grantF t v b u es f T I LT).1 (grantF t v b u es f T I LT).2.1, .int .i64 (grantF t v b u es f T I LT).1] W fun e w' => e = .returned (ballotV (grantF t v b u es f T I LT).1 (grantF t v b u es f T I LT).2.1) ∧ Below W.heap.size W w') := fun W => by
    have := see_any (grantF t v b u es f T I LT).1 (grantF t v b u es f T I LT).2.1 (grantF t v b u es f T I LT).1 W
    rwa [seeF_self] at this
  clear hl
  generalize grantF t v b u es f T I LT = G at HG HG2 HS
  obtain ⟨G1, G2, G3⟩ := G
  simp only at HG HG2 HS
  generalize hn : es.length = n at HF HG HG2 ⊢
  clear hn
  by_cases h100 : (n : Int) ≤ 100
  · rw [decide_eq_true h100] at HF
    clear h100
    go_enter Try.func4, Try.ntmps4
    go_wp2_with (first
      | (go_at_call 15; refine (voteAwake_any _).mono ?_; rintro e w1 ⟨rfl, hb1⟩; obtain ⟨⟨g0, g1, g2⟩, hz, hw0⟩ := alloc3 w _ _ _; clear hz; replace hw0 := hw0.trans (hb1.mono hw0.size); replace g0 := blk_keep hb1 g0; replace g1 := blk_keep hb1 g1; replace g2 := blk_keep hb1 g2; obtain ⟨hc0, hc1, _, _, hlt0⟩ := box2 g0; obtain ⟨lc0, lc1, lc2, _, _, _, hlt1⟩ := box3 g1; obtain ⟨mc0, mc1, mc2, mc3, mc4, mc5, mc6, mc7, mc8⟩ := box9 g2; have hlt2 := blk_lt g2)
      | (go_at_call 16; refine (HF.out _).mono ?_; rintro e w2 ⟨rfl, hb2⟩; replace hw0 := hw0.trans (hb2.mono hw0.size); replace g0 := blk_keep hb2 g0; replace g1 := blk_keep hb2 g1; replace g2 := blk_keep hb2 g2; obtain ⟨hc0, hc1, _, _, hlt0⟩ := box2 g0; obtain ⟨lc0, lc1, lc2, _, _, _, hlt1⟩ := box3 g1; obtain ⟨mc0, mc1, mc2, mc3, mc4, mc5, mc6, mc7, mc8⟩ := box9 g2; have hlt2 := blk_lt g2)
      | (go_at_call 17; with_reducible refine (HG.out _ hw0).mono ?_; rintro e w3 ⟨rfl, hb3⟩; replace hw0 := hw0.trans (hb3.mono hw0.size); replace g0 := blk_keep hb3 g0; replace g1 := blk_keep hb3 g1; replace g2 := blk_keep hb3 g2; obtain ⟨hc0, hc1, _, _, hlt0⟩ := box2 g0; obtain ⟨lc0, lc1, lc2, _, _, _, hlt1⟩ := box3 g1; obtain ⟨mc0, mc1, mc2, mc3, mc4, mc5, mc6, mc7, mc8⟩ := box9 g2; have hlt2 := blk_lt g2; replace hw0 := hw0.alloc hw0.size (.cells #[.int .i64 G1, .int .i64 G2] 23); replace g0 := blk_alloc g0 (.cells #[.int .i64 G1, .int .i64 G2] 23); replace g1 := blk_alloc g1 (.cells #[.int .i64 G1, .int .i64 G2] 23); replace g2 := blk_alloc g2 (.cells #[.int .i64 G1, .int .i64 G2] 23); have gX := blk_new w3 (.cells #[.int .i64 G1, .int .i64 G2] 23))
      | (go_at_call 17; with_reducible refine (HG2.out _ hw0).mono ?_; rintro e w4 ⟨rfl, hb4⟩; replace hw0 := hw0.trans (hb4.mono hw0.size); replace g0 := blk_keep hb4 g0; replace g1 := blk_keep hb4 g1; replace g2 := blk_keep hb4 g2; obtain ⟨hc0, hc1, _, _, hlt0⟩ := box2 g0; obtain ⟨lc0, lc1, lc2, _, _, _, hlt1⟩ := box3 g1; obtain ⟨mc0, mc1, mc2, mc3, mc4, mc5, mc6, mc7, mc8⟩ := box9 g2; have hlt2 := blk_lt g2; replace gX := blk_keep hb4 gX; obtain ⟨xc0, xc1, _, _, xlt⟩ := box2 gX; replace hw0 := hw0.alloc hw0.size (.cells #[.int .i64 G1, .int .i64 G2] 23); replace g0 := blk_alloc g0 (.cells #[.int .i64 G1, .int .i64 G2] 23); replace g1 := blk_alloc g1 (.cells #[.int .i64 G1, .int .i64 G2] 23); replace g2 := blk_alloc g2 (.cells #[.int .i64 G1, .int .i64 G2] 23); replace gX := blk_alloc gX (.cells #[.int .i64 G1, .int .i64 G2] 23); have gY := blk_new w4 (.cells #[.int .i64 G1, .int .i64 G2] 23)))
    obtain ⟨xc0, xc1, _, _, xlt⟩ := box2 gX
    obtain ⟨yc0, yc1, _, _, ylt⟩ := box2 gY
    go_region_held3 (fun W => W.cell? ⟨w3.heap.size, 0, none⟩ = some (.int .i64 G1) ∧ W.cell? ⟨w3.heap.size, 1, none⟩ = some (.int .i64 G2) ∧ W.cell? ⟨w4.heap.size, 0, none⟩ = some (.int .i64 G1) ∧ W.cell? ⟨w4.heap.size, 1, none⟩ = some (.int .i64 G2)) (first | exact ⟨xc0, xc1, yc0, yc1⟩ | exact ⟨zc0, zc1, zd0, zd1⟩) ((go_at_call 19; refine (HS.out _).mono ?_; rintro e w5 ⟨rfl, hb5⟩; obtain ⟨zc0, zc1, _, _, _⟩ := box2 (blk_keep hb5 (blk_drew gX)); obtain ⟨zd0, zd1, _, _, _⟩ := box2 (blk_keep hb5 (blk_drew gY)); replace hw0 := hw0.drew.trans (hb5.mono hw0.size)))
    go_wp2
    go_ret
    exact ⟨rfl, hw0⟩
  · rw [decide_eq_false h100] at HF
    clear h100
    go_enter Try.func4, Try.ntmps4
    go_wp2_with (first
      | (go_at_call 15; refine (voteAwake_any _).mono ?_; rintro e w1 ⟨rfl, hb1⟩; obtain ⟨⟨g0, g1, g2⟩, hz, hw0⟩ := alloc3 w _ _ _; clear hz; replace hw0 := hw0.trans (hb1.mono hw0.size); replace g0 := blk_keep hb1 g0; replace g1 := blk_keep hb1 g1; replace g2 := blk_keep hb1 g2; obtain ⟨hc0, hc1, _, _, hlt0⟩ := box2 g0; obtain ⟨lc0, lc1, lc2, _, _, _, hlt1⟩ := box3 g1; obtain ⟨mc0, mc1, mc2, mc3, mc4, mc5, mc6, mc7, mc8⟩ := box9 g2; have hlt2 := blk_lt g2)
      | (go_at_call 16; refine (HF.out _).mono ?_; rintro e w2 ⟨rfl, hb2⟩; replace hw0 := hw0.trans (hb2.mono hw0.size); replace g0 := blk_keep hb2 g0; replace g1 := blk_keep hb2 g1; replace g2 := blk_keep hb2 g2; obtain ⟨hc0, hc1, _, _, hlt0⟩ := box2 g0; obtain ⟨lc0, lc1, lc2, _, _, _, hlt1⟩ := box3 g1; obtain ⟨mc0, mc1, mc2, mc3, mc4, mc5, mc6, mc7, mc8⟩ := box9 g2; have hlt2 := blk_lt g2))
    go_ret
    exact ⟨rfl, hw0⟩
end Go.Proofs.Ytifbcdjabdfeeaa
