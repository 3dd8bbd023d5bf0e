/-
  Layer 5's laws: VoteElects.
-/
import Derived.Test.YtifbcdjabdfeeaaVoteI
import Derived.Test.YtifbcdjabdfeeaaOpenLogs
namespace Go.Proofs.Ytifbcdjabdfeeaa
open Go.RowKit
set_option linter.unusedVariables false
/-- Of two who ask in one term one at most is given the vote. -/
theorem grantF_two (t v b u : Int) (es : List En) (f g T I LT J MT : Int) (hfg : f ≠ g) (h1 : (grantF t v b u es f T I LT).2.2 = true) : (grantF (grantF t v b u es f T I LT).1 (grantF t v b u es f T I LT).2.1 b u es g T J MT).2.2 = false := by
  by_cases hc : T = (seeF t v T).1 ∧ memberB f = true ∧ ((seeF t v T).2 = 0 ∨ (seeF t v T).2 = f) ∧ newerB I LT (lastF b u es).1 (lastF b u es).2 = true
  · have e1 : grantF t v b u es f T I LT = ((seeF t v T).1, f, true) := if_pos hc
    rw [e1]
    simp only
    rw [← hc.1]
    unfold grantF
    rw [seeF_self]
    have hf : 1 ≤ f := by
      have := hc.2.1
      unfold memberB at this
      simp at this
      exact this.1
    rw [if_neg]
    rintro ⟨_, _, h, _⟩
    simp only at h
    omega
  · have e1 : grantF t v b u es f T I LT = ((seeF t v T).1, (seeF t v T).2, false) := if_neg hc
    rw [e1] at h1
    cases h1
set_option maxRecDepth 100000 in
set_option maxHeartbeats 6400000 in
theorem voteElects_walk (al : Option Addr) (cl : Nat) (ls : List Lg) (m1 : Mg) (pa : Option Addr) (pc : Nat) (m2 : Mg) (qa : Option Addr) (qc : Nat) (w : World) (hls : LogsIn w al cl ls) :
    Calls Try.prog 5 #[.slice al ls.length cl, msgV m1 pa pc, msgV m2 qa qc] w fun e w' => e = .returned (.bool true) ∧ Below w.heap.size w w' := by
  obtain ⟨pk, pf, po, pT, pI, pL, pC, pY, pE⟩ := m1
  obtain ⟨qk, qf, qo, qT, qI, qL, qC, qY, qE⟩ := m2
  have HLS := Lib.hid hls
  clear hls
  by_cases h16 : (16 : Int) < (ls.length : Int)
  · clear HLS
    go_enter Try.func5, Try.ntmps5
    go_wp2_with (go_at_call 15; refine (voteAwake_any _).mono ?_; rintro e w1 ⟨rfl, hb1⟩; have hw0 := below2 w (.cells #[.int .i64 pk, .int .i64 pf, .int .i64 po, .int .i64 pT, .int .i64 pI, .int .i64 pL, .int .i64 pC, .bool pY, .slice pa pE.length pc] 28) (.cells #[.int .i64 qk, .int .i64 qf, .int .i64 qo, .int .i64 qT, .int .i64 qI, .int .i64 qL, .int .i64 qC, .bool qY, .slice qa qE.length qc] 28); have g0 := alloc2_fst w (.cells #[.int .i64 pk, .int .i64 pf, .int .i64 po, .int .i64 pT, .int .i64 pI, .int .i64 pL, .int .i64 pC, .bool pY, .slice pa pE.length pc] 28) (.cells #[.int .i64 qk, .int .i64 qf, .int .i64 qo, .int .i64 qT, .int .i64 qI, .int .i64 qL, .int .i64 qC, .bool qY, .slice qa qE.length qc] 28); have g1 := alloc2_snd w (.cells #[.int .i64 pk, .int .i64 pf, .int .i64 po, .int .i64 pT, .int .i64 pI, .int .i64 pL, .int .i64 pC, .bool pY, .slice pa pE.length pc] 28) (.cells #[.int .i64 qk, .int .i64 qf, .int .i64 qo, .int .i64 qT, .int .i64 qI, .int .i64 qL, .int .i64 qC, .bool qY, .slice qa qE.length qc] 28); replace hw0 := hw0.trans (hb1.mono hw0.size); replace g0 := blk_keep hb1 g0; replace g1 := blk_keep hb1 g1; obtain ⟨pc0, pc1, pc2, pc3, pc4, pc5, pc6, pc7, pc8⟩ := box9 g0; obtain ⟨qc0, qc1, qc2, qc3, qc4, qc5, qc6, qc7, qc8⟩ := box9 g1; have plt := blk_lt g0; have qlt := blk_lt g1)
    go_ret
    exact ⟨rfl, hw0⟩
  by_cases hT : pT = qT
  rotate_left 1
  · have hT1 : (pT != qT) = true := by simpa using hT
    clear HLS hT
    go_enter Try.func5, Try.ntmps5
    go_wp2_with (go_at_call 15; refine (voteAwake_any _).mono ?_; rintro e w1 ⟨rfl, hb1⟩; have hw0 := below2 w (.cells #[.int .i64 pk, .int .i64 pf, .int .i64 po, .int .i64 pT, .int .i64 pI, .int .i64 pL, .int .i64 pC, .bool pY, .slice pa pE.length pc] 28) (.cells #[.int .i64 qk, .int .i64 qf, .int .i64 qo, .int .i64 qT, .int .i64 qI, .int .i64 qL, .int .i64 qC, .bool qY, .slice qa qE.length qc] 28); have g0 := alloc2_fst w (.cells #[.int .i64 pk, .int .i64 pf, .int .i64 po, .int .i64 pT, .int .i64 pI, .int .i64 pL, .int .i64 pC, .bool pY, .slice pa pE.length pc] 28) (.cells #[.int .i64 qk, .int .i64 qf, .int .i64 qo, .int .i64 qT, .int .i64 qI, .int .i64 qL, .int .i64 qC, .bool qY, .slice qa qE.length qc] 28); have g1 := alloc2_snd w (.cells #[.int .i64 pk, .int .i64 pf, .int .i64 po, .int .i64 pT, .int .i64 pI, .int .i64 pL, .int .i64 pC, .bool pY, .slice pa pE.length pc] 28) (.cells #[.int .i64 qk, .int .i64 qf, .int .i64 qo, .int .i64 qT, .int .i64 qI, .int .i64 qL, .int .i64 qC, .bool qY, .slice qa qE.length qc] 28); replace hw0 := hw0.trans (hb1.mono hw0.size); replace g0 := blk_keep hb1 g0; replace g1 := blk_keep hb1 g1; obtain ⟨pc0, pc1, pc2, pc3, pc4, pc5, pc6, pc7, pc8⟩ := box9 g0; obtain ⟨qc0, qc1, qc2, qc3, qc4, qc5, qc6, qc7, qc8⟩ := box9 g1; have plt := blk_lt g0; have qlt := blk_lt g1)
    go_ret
    exact ⟨rfl, hw0⟩
  by_cases hF : pf = qf
  · clear HLS
    subst hT hF
    go_enter Try.func5, Try.ntmps5
    go_wp2_with (go_at_call 15; refine (voteAwake_any _).mono ?_; rintro e w1 ⟨rfl, hb1⟩; have hw0 := below2 w (.cells #[.int .i64 pk, .int .i64 pf, .int .i64 po, .int .i64 pT, .int .i64 pI, .int .i64 pL, .int .i64 pC, .bool pY, .slice pa pE.length pc] 28) (.cells #[.int .i64 qk, .int .i64 pf, .int .i64 qo, .int .i64 pT, .int .i64 qI, .int .i64 qL, .int .i64 qC, .bool qY, .slice qa qE.length qc] 28); have g0 := alloc2_fst w (.cells #[.int .i64 pk, .int .i64 pf, .int .i64 po, .int .i64 pT, .int .i64 pI, .int .i64 pL, .int .i64 pC, .bool pY, .slice pa pE.length pc] 28) (.cells #[.int .i64 qk, .int .i64 pf, .int .i64 qo, .int .i64 pT, .int .i64 qI, .int .i64 qL, .int .i64 qC, .bool qY, .slice qa qE.length qc] 28); have g1 := alloc2_snd w (.cells #[.int .i64 pk, .int .i64 pf, .int .i64 po, .int .i64 pT, .int .i64 pI, .int .i64 pL, .int .i64 pC, .bool pY, .slice pa pE.length pc] 28) (.cells #[.int .i64 qk, .int .i64 pf, .int .i64 qo, .int .i64 pT, .int .i64 qI, .int .i64 qL, .int .i64 qC, .bool qY, .slice qa qE.length qc] 28); replace hw0 := hw0.trans (hb1.mono hw0.size); replace g0 := blk_keep hb1 g0; replace g1 := blk_keep hb1 g1; obtain ⟨pc0, pc1, pc2, pc3, pc4, pc5, pc6, pc7, pc8⟩ := box9 g0; obtain ⟨qc0, qc1, qc2, qc3, qc4, qc5, qc6, qc7, qc8⟩ := box9 g1; have plt := blk_lt g0; have qlt := blk_lt g1)
    go_ret
    exact ⟨rfl, hw0⟩
  have hF1 : (pf == qf) = false := by simpa using hF
  have HF := Lib.hid hF
  subst hT
  clear hF
  go_enter Try.func5, Try.ntmps5
  go_wp2_with (go_at_call 15; refine (voteAwake_any _).mono ?_; rintro e w1 ⟨rfl, hb1⟩; have hw0 := below2 w (.cells #[.int .i64 pk, .int .i64 pf, .int .i64 po, .int .i64 pT, .int .i64 pI, .int .i64 pL, .int .i64 pC, .bool pY, .slice pa pE.length pc] 28) (.cells #[.int .i64 qk, .int .i64 qf, .int .i64 qo, .int .i64 pT, .int .i64 qI, .int .i64 qL, .int .i64 qC, .bool qY, .slice qa qE.length qc] 28); have g0 := alloc2_fst w (.cells #[.int .i64 pk, .int .i64 pf, .int .i64 po, .int .i64 pT, .int .i64 pI, .int .i64 pL, .int .i64 pC, .bool pY, .slice pa pE.length pc] 28) (.cells #[.int .i64 qk, .int .i64 qf, .int .i64 qo, .int .i64 pT, .int .i64 qI, .int .i64 qL, .int .i64 qC, .bool qY, .slice qa qE.length qc] 28); have g1 := alloc2_snd w (.cells #[.int .i64 pk, .int .i64 pf, .int .i64 po, .int .i64 pT, .int .i64 pI, .int .i64 pL, .int .i64 pC, .bool pY, .slice pa pE.length pc] 28) (.cells #[.int .i64 qk, .int .i64 qf, .int .i64 qo, .int .i64 pT, .int .i64 qI, .int .i64 qL, .int .i64 qC, .bool qY, .slice qa qE.length qc] 28); replace hw0 := hw0.trans (hb1.mono hw0.size); replace g0 := blk_keep hb1 g0; replace g1 := blk_keep hb1 g1; obtain ⟨pc0, pc1, pc2, pc3, pc4, pc5, pc6, pc7, pc8⟩ := box9 g0; obtain ⟨qc0, qc1, qc2, qc3, qc4, qc5, qc6, qc7, qc8⟩ := box9 g1; have plt := blk_lt g0; have qlt := blk_lt g1)
  clear pc0 pc1 pc2 pc3 pc4 pc5 pc6 pc7 pc8 qc0 qc1 qc2 qc3 qc4 qc5 qc6 qc7 qc8 plt qlt
  go_loopw [8, 9] (fun c i wr => ∃ (k m : Nat), k ≤ ls.length ∧ m ≤ k ∧ c = .int .i64 m ∧ i = .int .i64 k ∧ wr.heap[w.heap.size]? = some (.cells #[.int .i64 pk, .int .i64 pf, .int .i64 po, .int .i64 pT, .int .i64 pI, .int .i64 pL, .int .i64 pC, .bool pY, .slice pa pE.length pc] 28) ∧ wr.heap[w.heap.size + 1]? = some (.cells #[.int .i64 qk, .int .i64 qf, .int .i64 qo, .int .i64 pT, .int .i64 qI, .int .i64 qL, .int .i64 qC, .bool qY, .slice qa qE.length qc] 28) ∧ Below w.heap.size w wr) (fun _ i _ => ls.length - (intOf i).toNat)
  case atStart => exact ⟨0, 0, by omega, by omega, rfl, rfl, g0, g1, hw0⟩
  case round =>
    obtain ⟨k, m, hk, hmk, rfl, rfl, g0, g1, hb⟩ := hrel
    by_cases hlt : k < ls.length
    · obtain ⟨lb, off, a, cap, rfl, hllt, hlc, hlin⟩ := (HLS.out.below hb).at_ k _ (List.getElem?_eq_getElem hlt)
      generalize (ls[k]'hlt) = l at hlc hlin
      obtain ⟨b, u, es⟩ := l
      have lc0 := hlc 0 _ rfl
      have lc1 := hlc 1 _ rfl
      have lc2 := hlc 2 _ rfl
      simp only [Nat.add_zero, ← Nat.add_assoc] at lc0 lc1 lc2
      simp only at hlin
      clear hlc
      obtain ⟨pc0, pc1, pc2, pc3, pc4, pc5, pc6, pc7, pc8⟩ := box9 g0
      obtain ⟨qc0, qc1, qc2, qc3, qc4, qc5, qc6, qc7, qc8⟩ := box9 g1
      have plt := blk_lt g0
      have qlt := blk_lt g1
      have hk0 : (0 : Int) ≤ (k : Int) := by omega
      have hk1 : (k : Int) < (ls.length : Int) := by omega
      have HFew : Hid (∀ W, Calls Try.prog 16 #[logV b u a es.length cap] W fun e w' => e = .returned (.bool (decide ((es.length : Int) ≤ 100))) ∧ Below W.heap.size W w') := fun W => few_any b u a es.length cap W
      by_cases h100 : (es.length : Int) ≤ 100
      rotate_left 1
      · rw [decide_eq_false h100] at HFew
        clear h100
        go_wp2_with (go_at_call 16; refine (HFew.out _).mono ?_; rintro e w2 ⟨rfl, hb2⟩)
        go_ret
        exact ⟨rfl, hb.trans (hb2.mono hb.size)⟩
      · rw [decide_eq_true h100] at HFew
        clear h100
        have HGA : Hid (∀ W, Below wr.heap.size wr W → Calls Try.prog 17 #[ballotV 0 0, logV b u a es.length cap, msgV (pk, pf, po, pT, pI, pL, pC, pY, pE) pa pc] W fun e w' => e = .returned (.tuple #[ballotV (grantF 0 0 b u es pf pT pI pL).1 (grantF 0 0 b u es pf pT pI pL).2.1, .bool (grantF 0 0 b u es pf pT pI pL).2.2]) ∧ Below W.heap.size W w') := fun W h => grant_any 0 0 b u a cap es _ pa pc W (hlin.below h)
        have HGB : Hid (∀ W, Below wr.heap.size wr W → Calls Try.prog 17 #[ballotV (grantF 0 0 b u es pf pT pI pL).1 (grantF 0 0 b u es pf pT pI pL).2.1, logV b u a es.length cap, msgV (qk, qf, qo, pT, qI, qL, qC, qY, qE) qa qc] W fun e w' => e = .returned (.tuple #[ballotV (grantF (grantF 0 0 b u es pf pT pI pL).1 (grantF 0 0 b u es pf pT pI pL).2.1 b u es qf pT qI qL).1 (grantF (grantF 0 0 b u es pf pT pI pL).1 (grantF 0 0 b u es pf pT pI pL).2.1 b u es qf pT qI qL).2.1, .bool (grantF (grantF 0 0 b u es pf pT pI pL).1 (grantF 0 0 b u es pf pT pI pL).2.1 b u es qf pT qI qL).2.2]) ∧ Below W.heap.size W w') := fun W h => grant_any _ _ b u a cap es (qk, qf, qo, pT, qI, qL, qC, qY, qE) qa qc W (hlin.below h)
        have HTW := Lib.hid (grantF_two 0 0 b u es pf qf pT pI pL qI qL HF.out)
        clear hlin
        generalize grantF (grantF 0 0 b u es pf pT pI pL).1 (grantF 0 0 b u es pf pT pI pL).2.1 b u es qf pT qI qL = H at HGB HTW
        generalize grantF 0 0 b u es pf pT pI pL = G at HGA HGB HTW
        obtain ⟨G1, G2, G3⟩ := G
        obtain ⟨H1, H2, H3⟩ := H
        simp only at HGA HGB HTW
        go_wp2_with (go_at_call 16; refine (HFew.out _).mono ?_; rintro e w2 ⟨rfl, hb2⟩; replace lc0 := ((bcell hb2).1 _ _ hllt).trans lc0; replace lc1 := ((bcell hb2).1 _ _ hllt).trans lc1; replace lc2 := ((bcell hb2).1 _ _ hllt).trans lc2; replace pc0 := ((bcell hb2).1 _ _ plt).trans pc0; replace pc1 := ((bcell hb2).1 _ _ plt).trans pc1; replace pc2 := ((bcell hb2).1 _ _ plt).trans pc2; replace pc3 := ((bcell hb2).1 _ _ plt).trans pc3; replace pc4 := ((bcell hb2).1 _ _ plt).trans pc4; replace pc5 := ((bcell hb2).1 _ _ plt).trans pc5; replace pc6 := ((bcell hb2).1 _ _ plt).trans pc6; replace pc7 := ((bcell hb2).1 _ _ plt).trans pc7; replace pc8 := ((bcell hb2).1 _ _ plt).trans pc8; replace qc0 := ((bcell hb2).1 _ _ qlt).trans qc0; replace qc1 := ((bcell hb2).1 _ _ qlt).trans qc1; replace qc2 := ((bcell hb2).1 _ _ qlt).trans qc2; replace qc3 := ((bcell hb2).1 _ _ qlt).trans qc3; replace qc4 := ((bcell hb2).1 _ _ qlt).trans qc4; replace qc5 := ((bcell hb2).1 _ _ qlt).trans qc5; replace qc6 := ((bcell hb2).1 _ _ qlt).trans qc6; replace qc7 := ((bcell hb2).1 _ _ qlt).trans qc7; replace qc8 := ((bcell hb2).1 _ _ qlt).trans qc8; replace plt := Nat.lt_of_lt_of_le plt hb2.size; replace qlt := Nat.lt_of_lt_of_le qlt hb2.size; replace hllt := Nat.lt_of_lt_of_le hllt hb2.size; replace g0 := blk_keep hb2 g0; replace g1 := blk_keep hb2 g1; replace hb := hb.trans (hb2.mono hb.size))
        go_upto_region 11 with fail
        go_cut [11, 12] (fun p q wx => ∃ X, p = .pointer (some ⟨X, 0, none⟩) ∧ q = .bool G3 ∧ w2.heap.size ≤ X ∧ wx.heap[X]? = some (.cells #[.int .i64 G1, .int .i64 G2] 23) ∧ Below w2.heap.size w2 wx)
        case first =>
          go_region_held3 (fun W => W.cell? ⟨lb, off + k * 3, none⟩ = some (.int .i64 b) ∧ W.cell? ⟨lb, off + k * 3 + 1, none⟩ = some (.int .i64 u) ∧ W.cell? ⟨lb, off + k * 3 + 2, none⟩ = some (.slice a es.length cap) ∧ W.cell? ⟨w.heap.size, 0, none⟩ = some (.int .i64 pk) ∧ W.cell? ⟨w.heap.size, 1, none⟩ = some (.int .i64 pf) ∧ W.cell? ⟨w.heap.size, 2, none⟩ = some (.int .i64 po) ∧ W.cell? ⟨w.heap.size, 3, none⟩ = some (.int .i64 pT) ∧ W.cell? ⟨w.heap.size, 4, none⟩ = some (.int .i64 pI) ∧ W.cell? ⟨w.heap.size, 5, none⟩ = some (.int .i64 pL) ∧ W.cell? ⟨w.heap.size, 6, none⟩ = some (.int .i64 pC) ∧ W.cell? ⟨w.heap.size, 7, none⟩ = some (.bool pY) ∧ W.cell? ⟨w.heap.size, 8, none⟩ = some (.slice pa pE.length pc)) (first | exact ⟨zlc0, zlc1, zlc2, zpc0, zpc1, zpc2, zpc3, zpc4, zpc5, zpc6, zpc7, zpc8⟩ | exact ⟨lc0, lc1, lc2, pc0, pc1, pc2, pc3, pc4, pc5, pc6, pc7, pc8⟩ | exact ⟨(hfar _ _ hllt).trans zlc0, (hfar _ _ hllt).trans zlc1, (hfar _ _ hllt).trans zlc2, (hfar _ _ plt).trans zpc0, (hfar _ _ plt).trans zpc1, (hfar _ _ plt).trans zpc2, (hfar _ _ plt).trans zpc3, (hfar _ _ plt).trans zpc4, (hfar _ _ plt).trans zpc5, (hfar _ _ plt).trans zpc6, (hfar _ _ plt).trans zpc7, (hfar _ _ plt).trans zpc8⟩ | go_keep) ((go_at_call 17; refine (HGA.out _ (by first | exact hb2.drew | exact (hb2.alloc hb2.size _).drew)).mono ?_; rintro e w5 ⟨rfl, hb5⟩; have hb6 : Below w2.heap.size w2 w5 := (by first | exact (below0 w2).drew.trans (hb5.mono (below0 w2).drew.size) | exact (below1 w2 _).drew.trans (hb5.mono (below1 w2 _).drew.size)); have hfar : ∀ b o, b < w2.heap.size → (set2 w5 w2.heap.size (.int .i64 G1) (.int .i64 G2)).cell? ⟨b, o, none⟩ = w5.cell? ⟨b, o, none⟩ := (fun b o h => set2_cell_far (by omega) _ _); (try (have gq := blk_keep hb5 (blk_drew (blk_new w2 (.cells #[.int .i64 0, .int .i64 0] 23))); obtain ⟨xq0, xq1, xqf0, xqf1, xqlt⟩ := box2 gq)); have zlc0 := ((bcell hb6).1 _ _ hllt).trans lc0; have zlc1 := ((bcell hb6).1 _ _ hllt).trans lc1; have zlc2 := ((bcell hb6).1 _ _ hllt).trans lc2; have zpc0 := ((bcell hb6).1 _ _ plt).trans pc0; have zpc1 := ((bcell hb6).1 _ _ plt).trans pc1; have zpc2 := ((bcell hb6).1 _ _ plt).trans pc2; have zpc3 := ((bcell hb6).1 _ _ plt).trans pc3; have zpc4 := ((bcell hb6).1 _ _ plt).trans pc4; have zpc5 := ((bcell hb6).1 _ _ plt).trans pc5; have zpc6 := ((bcell hb6).1 _ _ plt).trans pc6; have zpc7 := ((bcell hb6).1 _ _ plt).trans pc7; have zpc8 := ((bcell hb6).1 _ _ plt).trans pc8))
          all_goals (go_wp2_with fail; go_meet)
          all_goals (first
            | exact ⟨w5.heap.size, rfl, rfl, hb6.size, blk_new _ _, hb6.alloc hb6.size _⟩
            | exact ⟨w2.heap.size, rfl, rfl, Nat.le_refl _, set2_blk (blk_keep hb5 (blk_drew (blk_new w2 _))) _ _, set2_below hb6 (Nat.le_refl _) _ _⟩)
        case rest =>
          obtain ⟨X, rfl, rfl, hX, gX, hbx⟩ := hcut
          replace lc0 := ((bcell hbx).1 _ _ hllt).trans lc0
          replace lc1 := ((bcell hbx).1 _ _ hllt).trans lc1
          replace lc2 := ((bcell hbx).1 _ _ hllt).trans lc2
          replace qc0 := ((bcell hbx).1 _ _ qlt).trans qc0
          replace qc1 := ((bcell hbx).1 _ _ qlt).trans qc1
          replace qc2 := ((bcell hbx).1 _ _ qlt).trans qc2
          replace qc3 := ((bcell hbx).1 _ _ qlt).trans qc3
          replace qc4 := ((bcell hbx).1 _ _ qlt).trans qc4
          replace qc5 := ((bcell hbx).1 _ _ qlt).trans qc5
          replace qc6 := ((bcell hbx).1 _ _ qlt).trans qc6
          replace qc7 := ((bcell hbx).1 _ _ qlt).trans qc7
          replace qc8 := ((bcell hbx).1 _ _ qlt).trans qc8
          replace plt := Nat.lt_of_lt_of_le plt hbx.size
          replace qlt := Nat.lt_of_lt_of_le qlt hbx.size
          replace hllt := Nat.lt_of_lt_of_le hllt hbx.size
          replace g0 := blk_keep hbx g0
          replace g1 := blk_keep hbx g1
          replace hb := hb.trans (hbx.mono hb.size)
          replace hb2 := hb2.trans (hbx.mono hb2.size)
          obtain ⟨xc0, xc1, xf0, xf1, xlt⟩ := box2 gX
          go_upto_region 12 with fail
          go_cut [13, 14] (fun p q wx => ∃ X, p = .pointer (some ⟨X, 0, none⟩) ∧ q = .bool H3 ∧ wc.heap.size ≤ X ∧ wx.heap[X]? = some (.cells #[.int .i64 H1, .int .i64 H2] 23) ∧ Below wc.heap.size wc wx)
          case first =>
            go_region_held3 (fun W => W.cell? ⟨X, 0, none⟩ = some (.int .i64 G1) ∧ W.cell? ⟨X, 1, none⟩ = some (.int .i64 G2) ∧ W.cell? ⟨lb, off + k * 3, none⟩ = some (.int .i64 b) ∧ W.cell? ⟨lb, off + k * 3 + 1, none⟩ = some (.int .i64 u) ∧ W.cell? ⟨lb, off + k * 3 + 2, none⟩ = some (.slice a es.length cap) ∧ W.cell? ⟨w.heap.size + 1, 0, none⟩ = some (.int .i64 qk) ∧ W.cell? ⟨w.heap.size + 1, 1, none⟩ = some (.int .i64 qf) ∧ W.cell? ⟨w.heap.size + 1, 2, none⟩ = some (.int .i64 qo) ∧ W.cell? ⟨w.heap.size + 1, 3, none⟩ = some (.int .i64 pT) ∧ W.cell? ⟨w.heap.size + 1, 4, none⟩ = some (.int .i64 qI) ∧ W.cell? ⟨w.heap.size + 1, 5, none⟩ = some (.int .i64 qL) ∧ W.cell? ⟨w.heap.size + 1, 6, none⟩ = some (.int .i64 qC) ∧ W.cell? ⟨w.heap.size + 1, 7, none⟩ = some (.bool qY) ∧ W.cell? ⟨w.heap.size + 1, 8, none⟩ = some (.slice qa qE.length qc)) (first | exact ⟨zxc0, zxc1, zlc0, zlc1, zlc2, zqc0, zqc1, zqc2, zqc3, zqc4, zqc5, zqc6, zqc7, zqc8⟩ | exact ⟨xc0, xc1, lc0, lc1, lc2, qc0, qc1, qc2, qc3, qc4, qc5, qc6, qc7, qc8⟩ | exact ⟨(hfar _ _ xlt).trans zxc0, (hfar _ _ xlt).trans zxc1, (hfar _ _ hllt).trans zlc0, (hfar _ _ hllt).trans zlc1, (hfar _ _ hllt).trans zlc2, (hfar _ _ qlt).trans zqc0, (hfar _ _ qlt).trans zqc1, (hfar _ _ qlt).trans zqc2, (hfar _ _ qlt).trans zqc3, (hfar _ _ qlt).trans zqc4, (hfar _ _ qlt).trans zqc5, (hfar _ _ qlt).trans zqc6, (hfar _ _ qlt).trans zqc7, (hfar _ _ qlt).trans zqc8⟩ | go_keep) ((go_at_call 17; refine (HGB.out _ (by first | exact hb2.drew | exact (hb2.alloc hb2.size _).drew)).mono ?_; rintro e w5 ⟨rfl, hb5⟩; have hb6 : Below wc.heap.size wc w5 := (by first | exact (below0 wc).drew.trans (hb5.mono (below0 wc).drew.size) | exact (below1 wc _).drew.trans (hb5.mono (below1 wc _).drew.size)); have hfar : ∀ b o, b < wc.heap.size → (set2 w5 wc.heap.size (.int .i64 H1) (.int .i64 H2)).cell? ⟨b, o, none⟩ = w5.cell? ⟨b, o, none⟩ := (fun b o h => set2_cell_far (by omega) _ _); (try (have gq := blk_keep hb5 (blk_drew (blk_new wc (.cells #[.int .i64 0, .int .i64 0] 23))); obtain ⟨xq0, xq1, xqf0, xqf1, xqlt⟩ := box2 gq)); have zxc0 := ((bcell hb6).1 _ _ xlt).trans xc0; have zxc1 := ((bcell hb6).1 _ _ xlt).trans xc1; have zlc0 := ((bcell hb6).1 _ _ hllt).trans lc0; have zlc1 := ((bcell hb6).1 _ _ hllt).trans lc1; have zlc2 := ((bcell hb6).1 _ _ hllt).trans lc2; have zqc0 := ((bcell hb6).1 _ _ qlt).trans qc0; have zqc1 := ((bcell hb6).1 _ _ qlt).trans qc1; have zqc2 := ((bcell hb6).1 _ _ qlt).trans qc2; have zqc3 := ((bcell hb6).1 _ _ qlt).trans qc3; have zqc4 := ((bcell hb6).1 _ _ qlt).trans qc4; have zqc5 := ((bcell hb6).1 _ _ qlt).trans qc5; have zqc6 := ((bcell hb6).1 _ _ qlt).trans qc6; have zqc7 := ((bcell hb6).1 _ _ qlt).trans qc7; have zqc8 := ((bcell hb6).1 _ _ qlt).trans qc8))
            all_goals (go_wp2_with fail; go_meet)
            all_goals (first
              | exact ⟨w5.heap.size, rfl, rfl, hb6.size, blk_new _ _, hb6.alloc hb6.size _⟩
              | exact ⟨wc.heap.size, rfl, rfl, Nat.le_refl _, set2_blk (blk_keep hb5 (blk_drew (blk_new wc _))) _ _, set2_below hb6 (Nat.le_refl _) _ _⟩)
          case rest =>
            obtain ⟨Y, rfl, rfl, hY, gY, hby⟩ := hcut
            clear lc0 lc1 lc2 qc0 qc1 qc2 qc3 qc4 qc5 qc6 qc7 qc8
            replace plt := Nat.lt_of_lt_of_le plt hby.size
            replace qlt := Nat.lt_of_lt_of_le qlt hby.size
            replace hllt := Nat.lt_of_lt_of_le hllt hby.size
            replace g0 := blk_keep hby g0
            replace g1 := blk_keep hby g1
            replace hb := hb.trans (hby.mono hb.size)
            cases G3 with
            | true =>
              obtain rfl := HTW.out rfl
              go_wp2
              go_roundw
              case rel => exact ⟨k + 1, m + 1, by omega, by omega, by go_num, by go_num, g0, g1, hb⟩
              case measure => simp [intOf]; omega
            | false =>
              cases H3 with
              | true =>
                go_wp2
                go_roundw
                case rel => exact ⟨k + 1, m + 1, by omega, by omega, by go_num, by go_num, g0, g1, hb⟩
                case measure => simp [intOf]; omega
              | false =>
                go_wp2
                go_roundw
                case rel => exact ⟨k + 1, m, by omega, by omega, rfl, by go_num, g0, g1, hb⟩
                case measure => simp [intOf]; omega
    · go_wp2
      go_ret
      exact ⟨congrArg _ (congrArg Value.bool (decide_eq_true (by omega))), hb⟩
end Go.Proofs.Ytifbcdjabdfeeaa
