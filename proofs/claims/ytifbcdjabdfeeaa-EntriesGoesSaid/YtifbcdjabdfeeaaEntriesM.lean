/-
  Layer 4's laws: EntriesAdd.
-/
import Derived.Test.YtifbcdjabdfeeaaEntriesL
import Derived.Test.YtifbcdjabdfeeaaVoteD
namespace Go.Proofs.Ytifbcdjabdfeeaa
open Go.RowKit
set_option linter.unusedVariables false
theorem addF_may {b t : Int} {es : List En} {i T : Int} {more : List En} (h : (addF b t es i T more).2.2.2 = 0) : mayL (addF b t es i T more).1 (addF b t es i T more).2.1 (addF b t es i T more).2.2.1 = true := by
  unfold addF at h ⊢
  by_cases h0 : mayL b t es = true ∧ rising more T = true
  · rw [if_pos h0] at h ⊢
    by_cases h1 : i < b
    · rw [if_pos h1] at h; cases h
    rw [if_neg h1] at h ⊢
    by_cases h2 : b + es.length < i
    · rw [if_pos h2] at h; cases h
    rw [if_neg h2] at h ⊢
    by_cases h3 : (termL b t es i).1 = T
    · rw [if_pos h3] at h ⊢
      by_cases h4 : 64 < (mergeL es (i - b).toNat more).length
      · rw [if_pos h4] at h; cases h
      rw [if_neg h4]
      obtain ⟨m1, m2, m3, m4, m5, m6, m7⟩ := mayL_true h0.1
      have hk : (i - b).toNat ≤ es.length := by omega
      have ht := termL_at (b := b) (t := t) (es := es) (i := i) (i - b).toNat hk (by omega)
      rw [ht] at h3
      exact mayL_mk m1 m2 m3 m4 m5 (Nat.not_lt.1 h4) ((mergeL_facts es more (i - b).toNat hk).2.2.2.1 t m7 (by simp only at h3; rw [h3]; exact h0.2))
    · rw [if_neg h3] at h; cases h
  · rw [if_neg h0] at h; cases h
set_option maxHeartbeats 3200000 in
theorem entriesAdd_walk (b u : Int) (a : Option Addr) (cap : Nat) (es : List En) (i T : Int) (hwi : (Lit.int .i64 i).wf = true) (am : Option Addr) (cm : Nat) (more : List En) (w : World) (hl : LogIn w a cap es) (hm : LogIn w am cm more) :
    Calls Try.prog 9 #[logV b u a es.length cap, .int .i64 i, .int .i64 T, .slice am more.length cm] w fun e w' => e = .returned (.bool true) ∧ Below w.heap.size w w' := by
  have HF : Hid (∀ W, Calls Try.prog 16 #[logV b u a es.length cap] W fun e w' => e = .returned (.bool (decide ((es.length : Int) ≤ 100))) ∧ Below W.heap.size W w') := fun W => few_any b u a es.length cap W
  by_cases h100 : (es.length : Int) ≤ 100
  rotate_left 1
  · rw [decide_eq_false h100] at HF
    clear h100 hl hm
    go_enter Try.func9, Try.ntmps9
    go_wp2_with (first
      | (go_at_call 24; refine (entriesAwake_any _).mono ?_; rintro e w1 ⟨rfl, hb1⟩; have hw0 := alloc_below hb1; have g0 := blk_keep hb1 (blk_new w _); obtain ⟨hc0, hc1, hc2, _, _, _, hlt0⟩ := box3 g0)
      | (go_at_call 16; refine (HF.out _).mono ?_; rintro e w2 ⟨rfl, hb2⟩; replace hw0 := hw0.trans (hb2.mono hw0.size); replace g0 := blk_keep hb2 g0; obtain ⟨hc0, hc1, hc2, _, _, _, hlt0⟩ := box3 g0))
    go_ret
    exact ⟨rfl, hw0⟩
  rw [decide_eq_true h100] at HF
  by_cases hm100 : (100 : Int) < (more.length : Int)
  · clear h100 hl hm
    go_enter Try.func9, Try.ntmps9
    go_wp2_with (first
      | (go_at_call 24; refine (entriesAwake_any _).mono ?_; rintro e w1 ⟨rfl, hb1⟩; have hw0 := alloc_below hb1; have g0 := blk_keep hb1 (blk_new w _); obtain ⟨hc0, hc1, hc2, _, _, _, hlt0⟩ := box3 g0)
      | (go_at_call 16; refine (HF.out _).mono ?_; rintro e w2 ⟨rfl, hb2⟩; replace hw0 := hw0.trans (hb2.mono hw0.size); replace g0 := blk_keep hb2 g0; obtain ⟨hc0, hc1, hc2, _, _, _, hlt0⟩ := box3 g0))
    go_ret
    exact ⟨rfl, hw0⟩
  have HA : Hid (∀ W, Below w.heap.size w W → Calls Try.prog 25 #[logV b u a es.length cap, .int .i64 i, .int .i64 T, .slice am more.length cm] W (RetLog (addF b u es i T more) W)) := fun W h => add_any b u a cap es i T am cm more W (hl.below h) (hm.below h) (by omega)
  have HR : Hid (∀ W, Below w.heap.size w W → Calls Try.prog 26 #[logV b u a es.length cap, .int .i64 i, .int .i64 T, .slice am more.length cm] W (RetLog (addF b u es i T more) W)) := fun W h => refAdd_any b u a cap es i T hwi am cm more W (hl.below h) (hm.below h) (by omega)
  have HY := Lib.hid (addF_may (b := b) (t := u) (es := es) (i := i) (T := T) (more := more))
  clear hl hm h100
  generalize addF b u es i T more = r at HA HR HY
  obtain ⟨rb, rt, rl, re⟩ := r
  simp only at HY
  have HLg : Hid (∀ W a c a' c', LogIn W a c rl → LogIn W a' c' rl → Calls Try.prog 27 #[logV rb rt a rl.length c, logV rb rt a' rl.length c'] W fun e w' => e = .returned (.bool true) ∧ Below W.heap.size W w') := fun W a c a' c' h h' => by
    have := logs_any rb rt a c rl rb rt a' c' rl W h h'
    rwa [show (decide (rl = rl) && rb == rb && rt == rt) = true by simp] at this
  by_cases hre : re = 0
  · subst hre
    have HMy : Hid (∀ W a c, LogIn W a c rl → Calls Try.prog 28 #[logV rb rt a rl.length c] W fun e w' => e = .returned (.bool true) ∧ Below W.heap.size W w') := fun W a c h => by
      have := may_any rb rt a c rl W h
      rwa [HY.out rfl] at this
    go_enter Try.func9, Try.ntmps9
    go_wp2_with (first
      | (go_at_call 24; refine (entriesAwake_any _).mono ?_; rintro e w1 ⟨rfl, hb1⟩; have hw0 := alloc_below hb1; have g0 := blk_keep hb1 (blk_new w _); obtain ⟨hc0, hc1, hc2, _, _, _, hlt0⟩ := box3 g0)
      | (go_at_call 16; refine (HF.out _).mono ?_; rintro e w2 ⟨rfl, hb2⟩; replace hw0 := hw0.trans (hb2.mono hw0.size); replace g0 := blk_keep hb2 g0; obtain ⟨hc0, hc1, hc2, _, _, _, hlt0⟩ := box3 g0)
      | (go_at_call 25; refine (HA.out _ hw0).mono ?_; rintro e w3 ⟨a3, c3, rfl, hl3, _, hb3⟩; replace hw0 := hw0.trans (hb3.mono hw0.size); replace g0 := blk_keep hb3 g0; obtain ⟨hc0, hc1, hc2, _, _, _, hlt0⟩ := box3 g0; have gX := blk_new w3 (.cells #[.int .i64 rb, .int .i64 rt, .slice a3 rl.length c3] 26); replace g0 := blk_alloc g0 (.cells #[.int .i64 rb, .int .i64 rt, .slice a3 rl.length c3] 26); replace hw0 := hw0.alloc hw0.size (.cells #[.int .i64 rb, .int .i64 rt, .slice a3 rl.length c3] 26); replace hl3 := hl3.below (below1 w3 (.cells #[.int .i64 rb, .int .i64 rt, .slice a3 rl.length c3] 26)))
      | (go_at_call 26; refine (HR.out _ hw0).mono ?_; rintro e w4 ⟨a4, c4, rfl, hl4, _, hb4⟩; replace hw0 := hw0.trans (hb4.mono hw0.size); replace g0 := blk_keep hb4 g0; obtain ⟨hc0, hc1, hc2, _, _, _, hlt0⟩ := box3 g0; replace gX := blk_keep hb4 gX; obtain ⟨xc0, xc1, xc2, _, _, _, xlt⟩ := box3 gX; replace hl3 := hl3.below hb4; have gY := blk_new w4 (.cells #[.int .i64 rb, .int .i64 rt, .slice a4 rl.length c4] 26); replace gX := blk_alloc gX (.cells #[.int .i64 rb, .int .i64 rt, .slice a4 rl.length c4] 26); replace hw0 := hw0.alloc hw0.size (.cells #[.int .i64 rb, .int .i64 rt, .slice a4 rl.length c4] 26); replace hl3 := hl3.below (below1 w4 (.cells #[.int .i64 rb, .int .i64 rt, .slice a4 rl.length c4] 26)); replace hl4 := hl4.below (below1 w4 (.cells #[.int .i64 rb, .int .i64 rt, .slice a4 rl.length c4] 26)))
      | (go_at_call 27; refine (HLg.out _ _ _ _ _ hl3 hl4).mono ?_; rintro e w5 ⟨rfl, hb5⟩; replace hw0 := hw0.trans (hb5.mono hw0.size); replace gX := blk_keep hb5 gX; obtain ⟨xc0, xc1, xc2, _, _, _, xlt⟩ := box3 gX; replace hl3 := hl3.below hb5)
      | (go_at_call 28; refine (HMy.out _ _ _ hl3).mono ?_; rintro e w6 ⟨rfl, hb6⟩; replace hw0 := hw0.trans (hb6.mono hw0.size)))
    go_ret
    exact ⟨rfl, hw0⟩
  · have hre1 : (re != 0) = true := by simpa using hre
    clear hre
    go_enter Try.func9, Try.ntmps9
    go_wp2_with (first
      | (go_at_call 24; refine (entriesAwake_any _).mono ?_; rintro e w1 ⟨rfl, hb1⟩; have hw0 := alloc_below hb1; have g0 := blk_keep hb1 (blk_new w _); obtain ⟨hc0, hc1, hc2, _, _, _, hlt0⟩ := box3 g0)
      | (go_at_call 16; refine (HF.out _).mono ?_; rintro e w2 ⟨rfl, hb2⟩; replace hw0 := hw0.trans (hb2.mono hw0.size); replace g0 := blk_keep hb2 g0; obtain ⟨hc0, hc1, hc2, _, _, _, hlt0⟩ := box3 g0)
      | (go_at_call 25; refine (HA.out _ hw0).mono ?_; rintro e w3 ⟨a3, c3, rfl, hl3, _, hb3⟩; replace hw0 := hw0.trans (hb3.mono hw0.size); replace g0 := blk_keep hb3 g0; obtain ⟨hc0, hc1, hc2, _, _, _, hlt0⟩ := box3 g0; have gX := blk_new w3 (.cells #[.int .i64 rb, .int .i64 rt, .slice a3 rl.length c3] 26); replace g0 := blk_alloc g0 (.cells #[.int .i64 rb, .int .i64 rt, .slice a3 rl.length c3] 26); replace hw0 := hw0.alloc hw0.size (.cells #[.int .i64 rb, .int .i64 rt, .slice a3 rl.length c3] 26); replace hl3 := hl3.below (below1 w3 (.cells #[.int .i64 rb, .int .i64 rt, .slice a3 rl.length c3] 26)))
      | (go_at_call 26; refine (HR.out _ hw0).mono ?_; rintro e w4 ⟨a4, c4, rfl, hl4, _, hb4⟩; replace hw0 := hw0.trans (hb4.mono hw0.size); replace g0 := blk_keep hb4 g0; obtain ⟨hc0, hc1, hc2, _, _, _, hlt0⟩ := box3 g0; replace gX := blk_keep hb4 gX; obtain ⟨xc0, xc1, xc2, _, _, _, xlt⟩ := box3 gX; replace hl3 := hl3.below hb4; have gY := blk_new w4 (.cells #[.int .i64 rb, .int .i64 rt, .slice a4 rl.length c4] 26); replace gX := blk_alloc gX (.cells #[.int .i64 rb, .int .i64 rt, .slice a4 rl.length c4] 26); replace hw0 := hw0.alloc hw0.size (.cells #[.int .i64 rb, .int .i64 rt, .slice a4 rl.length c4] 26); replace hl3 := hl3.below (below1 w4 (.cells #[.int .i64 rb, .int .i64 rt, .slice a4 rl.length c4] 26)); replace hl4 := hl4.below (below1 w4 (.cells #[.int .i64 rb, .int .i64 rt, .slice a4 rl.length c4] 26)))
      | (go_at_call 27; refine (HLg.out _ _ _ _ _ hl3 hl4).mono ?_; rintro e w5 ⟨rfl, hb5⟩; replace hw0 := hw0.trans (hb5.mono hw0.size); replace gX := blk_keep hb5 gX; obtain ⟨xc0, xc1, xc2, _, _, _, xlt⟩ := box3 gX; replace hl3 := hl3.below hb5))
    go_ret
    exact ⟨rfl, hw0⟩
end Go.Proofs.Ytifbcdjabdfeeaa
