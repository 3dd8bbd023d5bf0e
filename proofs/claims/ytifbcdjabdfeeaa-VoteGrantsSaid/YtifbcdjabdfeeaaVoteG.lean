/-
  Layer 5's laws: VoteGrants.
-/
import Derived.Test.YtifbcdjabdfeeaaVoteF
namespace Go.Proofs.Ytifbcdjabdfeeaa
open Go.RowKit
set_option linter.unusedVariables false
set_option maxHeartbeats 3200000 in
theorem voteGrants_walk (t v b u : Int) (a : Option Addr) (cap : Nat) (es : List En) (m : Mg) (am : Option Addr) (cm : Nat) (w : World) (hl : LogIn w a cap es) :
    Calls Try.prog 6 #[ballotV t v, logV b u a es.length cap, msgV m am cm] w fun e w' => e = .returned (.bool true) ∧ Below w.heap.size w w' := by
  obtain ⟨k, f, o, T, I, LT, C, Y, L⟩ := m
  have HF : Hid (∀ W, Calls Try.prog 16 #[logV b u a es.length cap] W fun e w' => e = .returned (.bool (decide ((es.length : Int) ≤ 100))) ∧ Below W.heap.size W w') := fun W => few_any b u a es.length cap W
  have HG : Hid (∀ W, Below w.heap.size w W → Calls Try.prog 17 #[ballotV t v, logV b u a es.length cap, msgV (k, f, o, T, I, LT, C, Y, L) am cm] W fun e w' => e = .returned (.tuple #[ballotV (grantF t v b u es f T I LT).1 (grantF t v b u es f T I LT).2.1, .bool (grantF t v b u es f T I LT).2.2]) ∧ Below W.heap.size W w') := fun W h => grant_any t v b u a cap es _ am cm W (hl.below h)
  have HG2 : Hid (∀ W, Below w.heap.size w W → Calls Try.prog 20 #[ballotV t v, logV b u a es.length cap, msgV (k, f, o, T, I, LT, C, Y, L) am cm] W fun e w' => e = .returned (.tuple #[ballotV (grantF t v b u es f T I LT).1 (grantF t v b u es f T I LT).2.1, .bool (grantF t v b u es f T I LT).2.2]) ∧ Below W.heap.size W w') := fun W h => refGrant_any t v b u a cap es _ am cm W (hl.below h)
  have HS : Hid (∀ W, Calls Try.prog 19 #[ballotV t v, .int .i64 T] W fun e w' => e = .returned (ballotV (seeF t v T).1 (seeF t v T).2) ∧ Below W.heap.size W w') := fun W => see_any t v T W
  have HS2 : Hid (∀ W, Calls Try.prog 21 #[ballotV t v, .int .i64 T] W fun e w' => e = .returned (ballotV (seeF t v T).1 (seeF t v T).2) ∧ Below W.heap.size W w') := fun W => refSee_any t v T W
  have HM : Hid (∀ W, Calls Try.prog 22 #[ballotV t v] W fun e w' => e = .returned (.bool (mayV t v)) ∧ Below W.heap.size W w') := fun W => mayV_any t v W
  have HM2 : Hid (∀ W, Calls Try.prog 23 #[ballotV t v] W fun e w' => e = .returned (.bool (mayV t v)) ∧ Below W.heap.size W w') := fun W => refMayV_any t v W
  clear hl
  generalize grantF t v b u es f T I LT = G at HG HG2
  generalize seeF t v T = s at HS HS2
  generalize mayV t v = my at HM HM2
  obtain ⟨G1, G2, G3⟩ := G
  obtain ⟨s1, s2⟩ := s
  simp only at HG HG2 HS HS2
  generalize hn : es.length = n at HF HG HG2 ⊢
  clear hn
  by_cases h100 : (n : Int) ≤ 100
  · rw [decide_eq_true h100] at HF
    clear h100
    go_enter Try.func6, Try.ntmps6
    go_wp2_with (first
      | (go_at_call 15; refine (voteAwake_any _).mono ?_; rintro e w1 ⟨rfl, hb1⟩; obtain ⟨⟨g0, g1, g2⟩, hz, hw0⟩ := alloc3 w _ _ _; clear hz; replace hw0 := hw0.trans (hb1.mono hw0.size); replace g0 := blk_keep hb1 g0; replace g1 := blk_keep hb1 g1; replace g2 := blk_keep hb1 g2; obtain ⟨hc0, hc1, _, _, hlt0⟩ := box2 g0; obtain ⟨lc0, lc1, lc2, _, _, _, hlt1⟩ := box3 g1; obtain ⟨mc0, mc1, mc2, mc3, mc4, mc5, mc6, mc7, mc8⟩ := box9 g2; have hlt2 := blk_lt g2)
      | (go_at_call 16; refine (HF.out _).mono ?_; rintro e w2 ⟨rfl, hb2⟩; replace hw0 := hw0.trans (hb2.mono hw0.size); replace g0 := blk_keep hb2 g0; replace g1 := blk_keep hb2 g1; replace g2 := blk_keep hb2 g2; obtain ⟨hc0, hc1, _, _, hlt0⟩ := box2 g0; obtain ⟨lc0, lc1, lc2, _, _, _, hlt1⟩ := box3 g1; obtain ⟨mc0, mc1, mc2, mc3, mc4, mc5, mc6, mc7, mc8⟩ := box9 g2; have hlt2 := blk_lt g2)
      | (go_at_call 17; with_reducible refine (HG.out _ hw0).mono ?_; rintro e w3 ⟨rfl, hb3⟩; replace hw0 := hw0.trans (hb3.mono hw0.size); replace g0 := blk_keep hb3 g0; replace g1 := blk_keep hb3 g1; replace g2 := blk_keep hb3 g2; obtain ⟨hc0, hc1, _, _, hlt0⟩ := box2 g0; obtain ⟨lc0, lc1, lc2, _, _, _, hlt1⟩ := box3 g1; obtain ⟨mc0, mc1, mc2, mc3, mc4, mc5, mc6, mc7, mc8⟩ := box9 g2; have hlt2 := blk_lt g2; replace hw0 := hw0.alloc hw0.size (.cells #[.int .i64 G1, .int .i64 G2] 23); replace g0 := blk_alloc g0 (.cells #[.int .i64 G1, .int .i64 G2] 23); replace g1 := blk_alloc g1 (.cells #[.int .i64 G1, .int .i64 G2] 23); replace g2 := blk_alloc g2 (.cells #[.int .i64 G1, .int .i64 G2] 23); have gX := blk_new w3 (.cells #[.int .i64 G1, .int .i64 G2] 23))
      | (go_at_call 20; with_reducible refine (HG2.out _ hw0).mono ?_; rintro e w4 ⟨rfl, hb4⟩; replace hw0 := hw0.trans (hb4.mono hw0.size); replace g0 := blk_keep hb4 g0; replace g1 := blk_keep hb4 g1; replace g2 := blk_keep hb4 g2; obtain ⟨hc0, hc1, _, _, hlt0⟩ := box2 g0; obtain ⟨lc0, lc1, lc2, _, _, _, hlt1⟩ := box3 g1; obtain ⟨mc0, mc1, mc2, mc3, mc4, mc5, mc6, mc7, mc8⟩ := box9 g2; have hlt2 := blk_lt g2; replace gX := blk_keep hb4 gX; obtain ⟨xc0, xc1, _, _, xlt⟩ := box2 gX; replace hw0 := hw0.alloc hw0.size (.cells #[.int .i64 G1, .int .i64 G2] 23); replace g0 := blk_alloc g0 (.cells #[.int .i64 G1, .int .i64 G2] 23); replace g1 := blk_alloc g1 (.cells #[.int .i64 G1, .int .i64 G2] 23); replace g2 := blk_alloc g2 (.cells #[.int .i64 G1, .int .i64 G2] 23); replace gX := blk_alloc gX (.cells #[.int .i64 G1, .int .i64 G2] 23); have gY := blk_new w4 (.cells #[.int .i64 G1, .int .i64 G2] 23)))
    obtain ⟨xc0, xc1, _, _, xlt⟩ := box2 gX
    obtain ⟨yc0, yc1, _, _, ylt⟩ := box2 gY
    have fc0 := blk_cell g0 0
    have fc1 := blk_cell g0 1
    have fc3 := blk_cell g2 3
    go_region_held3 (fun W => W.cell? ⟨w3.heap.size, 0, none⟩ = some (.int .i64 G1) ∧ W.cell? ⟨w3.heap.size, 1, none⟩ = some (.int .i64 G2) ∧ W.cell? ⟨w4.heap.size, 0, none⟩ = some (.int .i64 G1) ∧ W.cell? ⟨w4.heap.size, 1, none⟩ = some (.int .i64 G2) ∧ W.cell? ⟨w.heap.size, 0, none⟩ = some (.int .i64 t) ∧ W.cell? ⟨w.heap.size, 1, none⟩ = some (.int .i64 v) ∧ W.cell? ⟨w.heap.size + 1 + 1, 3, none⟩ = some (.int .i64 T)) (first | exact ⟨x80, x81, y80, y81, f80, f81, f83⟩ | exact ⟨x70, x71, y70, y71, f70, f71, f73⟩ | exact ⟨x60, x61, y60, y61, f60, f61, f63⟩ | exact ⟨x50, x51, y50, y51, f50, f51, f53⟩ | exact ⟨xc0, xc1, yc0, yc1, fc0, fc1, fc3⟩) (first
      | ((go_at_call 19; refine (HS.out _).mono ?_; rintro e w5 ⟨rfl, hb5⟩; replace gX := blk_keep hb5 (blk_drew gX); replace gY := blk_keep hb5 (blk_drew gY); replace g0 := blk_keep hb5 (blk_drew g0); replace g2 := blk_keep hb5 (blk_drew g2); obtain ⟨x50, x51, _, _, _⟩ := box2 gX; obtain ⟨y50, y51, _, _, _⟩ := box2 gY; obtain ⟨f50, f51, _, _, _⟩ := box2 g0; have f53 := blk_cell g2 3; (first | (replace hw0 := hw0.trans (hb5.mono hw0.size)) | (replace hw0 := hw0.drew.trans (hb5.mono hw0.size)))))
      | ((go_at_call 21; refine (HS2.out _).mono ?_; rintro e w6 ⟨rfl, hb6⟩; replace gX := blk_keep hb6 (blk_drew gX); replace gY := blk_keep hb6 (blk_drew gY); replace g0 := blk_keep hb6 (blk_drew g0); replace g2 := blk_keep hb6 (blk_drew g2); obtain ⟨x60, x61, _, _, _⟩ := box2 gX; obtain ⟨y60, y61, _, _, _⟩ := box2 gY; obtain ⟨f60, f61, _, _, _⟩ := box2 g0; have f63 := blk_cell g2 3; (first | (replace hw0 := hw0.trans (hb6.mono hw0.size)) | (replace hw0 := hw0.drew.trans (hb6.mono hw0.size)))))
      | ((go_at_call 22; refine (HM.out _).mono ?_; rintro e w7 ⟨rfl, hb7⟩; replace gX := blk_keep hb7 (blk_drew gX); replace gY := blk_keep hb7 (blk_drew gY); replace g0 := blk_keep hb7 (blk_drew g0); replace g2 := blk_keep hb7 (blk_drew g2); obtain ⟨x70, x71, _, _, _⟩ := box2 gX; obtain ⟨y70, y71, _, _, _⟩ := box2 gY; obtain ⟨f70, f71, _, _, _⟩ := box2 g0; have f73 := blk_cell g2 3; (first | (replace hw0 := hw0.trans (hb7.mono hw0.size)) | (replace hw0 := hw0.drew.trans (hb7.mono hw0.size)))))
      | ((go_at_call 23; refine (HM2.out _).mono ?_; rintro e w8 ⟨rfl, hb8⟩; replace gX := blk_keep hb8 (blk_drew gX); replace gY := blk_keep hb8 (blk_drew gY); replace g0 := blk_keep hb8 (blk_drew g0); replace g2 := blk_keep hb8 (blk_drew g2); obtain ⟨x80, x81, _, _, _⟩ := box2 gX; obtain ⟨y80, y81, _, _, _⟩ := box2 gY; obtain ⟨f80, f81, _, _, _⟩ := box2 g0; have f83 := blk_cell g2 3; (first | (replace hw0 := hw0.trans (hb8.mono hw0.size)) | (replace hw0 := hw0.drew.trans (hb8.mono hw0.size))))))
    go_wp2
    go_ret
    exact ⟨rfl, hw0⟩
  · rw [decide_eq_false h100] at HF
    clear h100
    go_enter Try.func6, Try.ntmps6
    go_wp2_with (first
      | (go_at_call 15; refine (voteAwake_any _).mono ?_; rintro e w1 ⟨rfl, hb1⟩; obtain ⟨⟨g0, g1, g2⟩, hz, hw0⟩ := alloc3 w _ _ _; clear hz; replace hw0 := hw0.trans (hb1.mono hw0.size); replace g0 := blk_keep hb1 g0; replace g1 := blk_keep hb1 g1; replace g2 := blk_keep hb1 g2; obtain ⟨hc0, hc1, _, _, hlt0⟩ := box2 g0; obtain ⟨lc0, lc1, lc2, _, _, _, hlt1⟩ := box3 g1; obtain ⟨mc0, mc1, mc2, mc3, mc4, mc5, mc6, mc7, mc8⟩ := box9 g2; have hlt2 := blk_lt g2)
      | (go_at_call 16; refine (HF.out _).mono ?_; rintro e w2 ⟨rfl, hb2⟩; replace hw0 := hw0.trans (hb2.mono hw0.size); replace g0 := blk_keep hb2 g0; replace g1 := blk_keep hb2 g1; replace g2 := blk_keep hb2 g2; obtain ⟨hc0, hc1, _, _, hlt0⟩ := box2 g0; obtain ⟨lc0, lc1, lc2, _, _, _, hlt1⟩ := box3 g1; obtain ⟨mc0, mc1, mc2, mc3, mc4, mc5, mc6, mc7, mc8⟩ := box9 g2; have hlt2 := blk_lt g2))
    go_ret
    exact ⟨rfl, hw0⟩
end Go.Proofs.Ytifbcdjabdfeeaa
