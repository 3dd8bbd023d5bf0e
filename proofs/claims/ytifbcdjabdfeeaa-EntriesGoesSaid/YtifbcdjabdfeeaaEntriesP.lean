/-
  Layer 4's laws: EntriesThere.
-/
import Derived.Test.YtifbcdjabdfeeaaEntriesM
import Derived.Test.YtifbcdjabdfeeaaEntriesO
namespace Go.Proofs.Ytifbcdjabdfeeaa
open Go.RowKit
set_option linter.unusedVariables false
theorem addF_err {b t : Int} {es : List En} {i T : Int} {more : List En} (h : (addF b t es i T more).2.2.2 ≠ 0) : (addF b t es i T more).2.2.1 = [] := by
  unfold addF at h ⊢
  split
  · split
    · rfl
    · split
      · rfl
      · split
        · split
          · rfl
          · rename_i h1 h2 h3 h4 h5
            rw [if_pos h1, if_neg h2, if_neg h3, if_pos h4, if_neg h5] at h
            exact (h rfl).elim
        · rfl
  · rfl
theorem addF_ok {b t : Int} {es : List En} {i T : Int} {more : List En} (h : (addF b t es i T more).2.2.2 = 0) :
    ∃ k0 : Nat, i = b + (k0 : Int) ∧ k0 ≤ es.length ∧ mayL b t es = true ∧ rising more T = true ∧ endT (es.take k0) t = T ∧ addF b t es i T more = (b, t, mergeL es k0 more, 0) ∧ (mergeL es k0 more).length ≤ 64 := by
  unfold addF at h ⊢
  by_cases h0 : mayL b t es = true ∧ rising more T = true
  · rw [if_pos h0] at h ⊢
    by_cases h1 : i < b
    · rw [if_pos h1] at h; cases h
    rw [if_neg h1] at h ⊢
    by_cases h2 : b + es.length < i
    · rw [if_pos h2] at h; cases h
    rw [if_neg h2] at h ⊢
    by_cases h3 : (termL b t es i).1 = T
    · rw [if_pos h3] at h ⊢
      by_cases h4 : 64 < (mergeL es (i - b).toNat more).length
      · rw [if_pos h4] at h; cases h
      rw [if_neg h4]
      have hk : (i - b).toNat ≤ es.length := by omega
      have ht := termL_at (b := b) (t := t) (es := es) (i := i) (i - b).toNat hk (by omega)
      rw [ht] at h3
      exact ⟨(i - b).toNat, by omega, hk, h0.1, h0.2, h3, rfl, Nat.not_lt.1 h4⟩
    · rw [if_neg h3] at h; cases h
  · rw [if_neg h0] at h; cases h
theorem addF_mk {b t : Int} {es : List En} {T : Int} {more : List En} {k0 : Nat} (hk : k0 ≤ es.length) (hm : mayL b t es = true) (hr : rising more T = true) (hT : endT (es.take k0) t = T) (h64 : (mergeL es k0 more).length ≤ 64) : addF b t es (b + (k0 : Int)) T more = (b, t, mergeL es k0 more, 0) := by
  unfold addF
  rw [if_pos ⟨hm, hr⟩, if_neg (by omega), if_neg (by omega), if_pos (by rw [termL_at k0 hk rfl]; exact hT), show (b + (k0 : Int) - b).toNat = k0 by omega, if_neg (by omega)]
theorem endT_eq {es fs : List En} {k : Nat} (h : es.take k = fs.take k) (t : Int) : endT (es.take k) t = endT (fs.take k) t := by rw [h]
theorem from_ahead {b : Int} {es : List En} {k : Nat} (hk : k ≤ es.length) : fromL b es (b + 1) (k : Int) = es.take k := by
  by_cases h0 : k = 0
  · subst h0
    rw [fromL_none (by omega)]
    rfl
  · rw [fromL_some (by omega), show (b + 1 - b - 1).toNat = 0 by omega, List.drop_zero, Int.toNat_natCast]
set_option maxRecDepth 100000 in
set_option maxHeartbeats 6400000 in
theorem entriesThere_walk (b u : Int) (a : Option Addr) (cap : Nat) (es : List En) (i T : Int) (am : Option Addr) (cm : Nat) (more : List En) (w : World) (hl : LogIn w a cap es) (hm : LogIn w am cm more) :
    Calls Try.prog 11 #[logV b u a es.length cap, .int .i64 i, .int .i64 T, .slice am more.length cm] w fun e w' => e = .returned (.bool true) ∧ Below w.heap.size w w' := by
  have HF : Hid (∀ W, Calls Try.prog 16 #[logV b u a es.length cap] W fun e w' => e = .returned (.bool (decide ((es.length : Int) ≤ 100))) ∧ Below W.heap.size W w') := fun W => few_any b u a es.length cap W
  by_cases h100 : (es.length : Int) ≤ 100
  rotate_left 1
  · rw [decide_eq_false h100] at HF
    clear h100 hl hm
    go_enter Try.func11, Try.ntmps11
    go_wp2_with (first
      | (go_at_call 24; refine (entriesAwake_any _).mono ?_; rintro e w1 ⟨rfl, hb1⟩; have hw0 := alloc_below hb1; have g0 := blk_keep hb1 (blk_new w _); obtain ⟨hc0, hc1, hc2, _, _, _, hlt0⟩ := box3 g0)
      | (go_at_call 16; refine (HF.out _).mono ?_; rintro e w2 ⟨rfl, hb2⟩; replace hw0 := hw0.trans (hb2.mono hw0.size); replace g0 := blk_keep hb2 g0; obtain ⟨hc0, hc1, hc2, _, _, _, hlt0⟩ := box3 g0))
    go_ret
    exact ⟨rfl, hw0⟩
  rw [decide_eq_true h100] at HF
  by_cases hm100 : (100 : Int) < (more.length : Int)
  · clear h100 hl hm
    go_enter Try.func11, Try.ntmps11
    go_wp2_with (first
      | (go_at_call 24; refine (entriesAwake_any _).mono ?_; rintro e w1 ⟨rfl, hb1⟩; have hw0 := alloc_below hb1; have g0 := blk_keep hb1 (blk_new w _); obtain ⟨hc0, hc1, hc2, _, _, _, hlt0⟩ := box3 g0)
      | (go_at_call 16; refine (HF.out _).mono ?_; rintro e w2 ⟨rfl, hb2⟩; replace hw0 := hw0.trans (hb2.mono hw0.size); replace g0 := blk_keep hb2 g0; obtain ⟨hc0, hc1, hc2, _, _, _, hlt0⟩ := box3 g0))
    go_ret
    exact ⟨rfl, hw0⟩
  have HA : Hid (∀ W, Below w.heap.size w W → Calls Try.prog 25 #[logV b u a es.length cap, .int .i64 i, .int .i64 T, .slice am more.length cm] W (RetLog (addF b u es i T more) W)) := fun W h => add_any b u a cap es i T am cm more W (hl.below h) (hm.below h) (by omega)
  by_cases hre : (addF b u es i T more).2.2.2 = 0
  rotate_left 1
  · have hnil := addF_err hre
    generalize addF b u es i T more = r at HA hre hnil
    obtain ⟨rb, rt, rl, re⟩ := r
    simp only at hre hnil
    subst hnil
    have hre1 : (re != 0) = true := by simpa using hre
    clear hl hm h100 hre
    go_enter Try.func11, Try.ntmps11
    go_wp2_with (first
      | (go_at_call 24; refine (entriesAwake_any _).mono ?_; rintro e w1 ⟨rfl, hb1⟩; have hw0 := alloc_below hb1; have g0 := blk_keep hb1 (blk_new w _); obtain ⟨hc0, hc1, hc2, _, _, _, hlt0⟩ := box3 g0)
      | (go_at_call 16; refine (HF.out _).mono ?_; rintro e w2 ⟨rfl, hb2⟩; replace hw0 := hw0.trans (hb2.mono hw0.size); replace g0 := blk_keep hb2 g0; obtain ⟨hc0, hc1, hc2, _, _, _, hlt0⟩ := box3 g0)
      | (go_at_call 25; refine (HA.out _ hw0).mono ?_; rintro e w3 ⟨a3, c3, rfl, hl3, _, hb3⟩; replace hw0 := hw0.trans (hb3.mono hw0.size); replace g0 := blk_keep hb3 g0; obtain ⟨hc0, hc1, hc2, _, _, _, hlt0⟩ := box3 g0))
    go_ret
    exact ⟨rfl, hw0.alloc hw0.size _⟩
  obtain ⟨k0, rfl, hk0, hmay, hris, hT, hadd, h64⟩ := addF_ok hre
  rw [hadd] at HA
  obtain ⟨f1, f2, f3, f4, _⟩ := mergeL_facts es more k0 hk0
  have hmayM := addF_may hre
  rw [hadd] at hmayM
  simp only at hmayM
  have hag := mergeL_again (es := es) more hk0
  generalize mergeL es k0 more = M at *
  have HA2 : Hid (∀ W a c, Below w.heap.size w W → LogIn W a c M → Calls Try.prog 25 #[logV b u a M.length c, .int .i64 (b + (k0 : Int)), .int .i64 T, .slice am more.length cm] W (RetLog (b, u, M, 0) W)) := fun W a c h h' => by
    have := add_any b u a c M (b + (k0 : Int)) T am cm more W h' (hm.below h) (by omega)
    rwa [addF_mk (by omega) hmayM hris (by rw [f2]; exact hT) (by rw [hag]; exact h64), hag] at this
  have HLg : Hid (∀ W a c a' c', LogIn W a c M → LogIn W a' c' M → Calls Try.prog 27 #[logV b u a M.length c, logV b u a' M.length c'] W fun e w' => e = .returned (.bool true) ∧ Below W.heap.size W w') := fun W a c a' c' h h' => by
    have := logs_any b u a c M b u a' c' M W h h'
    rwa [show (decide (M = M) && b == b && u == u) = true by simp] at this
  have HTer : Hid (∀ W a c (j : Nat) (hj : j < more.length), LogIn W a c M → Calls Try.prog 30 #[logV b u a M.length c, .int .i64 (b + (k0 : Int) + 1 + (j : Int))] W fun e w' => e = .returned (.tuple #[.int .i64 (more[j]).1, .bool true]) ∧ Below W.heap.size W w') := fun W a c j hj h => by
    have := term_any b u a c M (b + (k0 : Int) + 1 + (j : Int)) W h
    unfold termF at this
    have hkm : k0 + j < M.length := by omega
    have f3j := f3 j hj
    rw [getD_at hkm] at f3j
    rw [fairL_yes hmayM, termL_at (es := M) (k0 + j + 1) (by omega) (by omega), endT_take hkm, f3j] at this
    exact this
  have HFrM : Hid (∀ W a c, LogIn W a c M → Calls Try.prog 32 #[logV b u a M.length c, .int .i64 (b + 1), .int .i64 (k0 : Int)] W (RetRow 55 7 k0 (ensV (es.take k0)) W)) := fun W a c h => by
    have := from_any b u a c M (b + 1) (k0 : Int) W h
    unfold fromF at this
    rw [fairL_yes hmayM, from_ahead (es := M) (by omega), f2, List.length_take, Nat.min_eq_left hk0] at this
    exact this
  have HFrE : Hid (∀ W, Below w.heap.size w W → Calls Try.prog 32 #[logV b u a es.length cap, .int .i64 (b + 1), .int .i64 (k0 : Int)] W (RetRow 55 7 k0 (ensV (es.take k0)) W)) := fun W h => by
    have := from_any b u a cap es (b + 1) (k0 : Int) W (hl.below h)
    unfold fromF at this
    rw [fairL_yes hmay, from_ahead hk0, List.length_take, Nat.min_eq_left hk0] at this
    exact this
  have HSm : Hid (∀ W A c A' c', RowAt W A (ensV (es.take k0)) → RowAt W A' (ensV (es.take k0)) → Calls Try.prog 31 #[.slice A k0 c, .slice A' k0 c'] W fun e w' => e = .returned (.bool true) ∧ Below W.heap.size W w') := fun W A c A' c' h h' => by
    have hlk : (es.take k0).length = k0 := by rw [List.length_take]; omega
    have := same_any A c (es.take k0) A' c' (es.take k0) W h h' (by unfold maxLen; omega)
    rw [hlk, decide_eq_true rfl] at this
    exact this
  have HMR := Lib.hid hm
  have hb0 := (mayL_true hmay).1
  have hb1' := (mayL_true hmay).2.1
  have hk64 : (k0 : Int) ≤ 100 := by omega
  have hk00 : (0 : Int) ≤ (k0 : Int) := by omega
  clear hl hm h100 hre hmay hris hT hadd f1 f2 f3 f4 hmayM hag h64 hk0
  go_enter Try.func11, Try.ntmps11
  go_wp2_with (first
    | (go_at_call 24; refine (entriesAwake_any _).mono ?_; rintro e w1 ⟨rfl, hb1⟩; have hw0 := alloc_below hb1; have g0 := blk_keep hb1 (blk_new w _); obtain ⟨hc0, hc1, hc2, _, _, _, hlt0⟩ := box3 g0)
    | (go_at_call 16; refine (HF.out _).mono ?_; rintro e w2 ⟨rfl, hb2⟩; replace hw0 := hw0.trans (hb2.mono hw0.size); replace g0 := blk_keep hb2 g0; obtain ⟨hc0, hc1, hc2, _, _, _, hlt0⟩ := box3 g0)
    | (go_at_call 25; refine (HA2.out _ _ _ hw0 hl3).mono ?_; rintro e w4 ⟨a4, c4, rfl, hl4, _, hb4⟩; replace hw0 := hw0.trans (hb4.mono hw0.size); replace g0 := blk_keep hb4 g0; obtain ⟨hc0, hc1, hc2, _, _, _, hlt0⟩ := box3 g0; replace gX := blk_keep hb4 gX; obtain ⟨xc0, xc1, xc2, _, _, _, xlt⟩ := box3 gX; replace hl3 := hl3.below hb4; replace gX := blk_alloc gX (.cells #[.int .i64 b, .int .i64 u, .slice a4 M.length c4] 26); replace g0 := blk_alloc g0 (.cells #[.int .i64 b, .int .i64 u, .slice a4 M.length c4] 26); replace hw0 := hw0.alloc hw0.size (.cells #[.int .i64 b, .int .i64 u, .slice a4 M.length c4] 26); replace hl3 := hl3.below (below1 w4 (.cells #[.int .i64 b, .int .i64 u, .slice a4 M.length c4] 26)); have hl4' := hl4.below (below1 w4 (.cells #[.int .i64 b, .int .i64 u, .slice a4 M.length c4] 26)))
    | (go_at_call 25; refine (HA.out _ hw0).mono ?_; rintro e w3 ⟨a3, c3, rfl, hl3, _, hb3⟩; replace hw0 := hw0.trans (hb3.mono hw0.size); replace g0 := blk_keep hb3 g0; obtain ⟨hc0, hc1, hc2, _, _, _, hlt0⟩ := box3 g0; have gX := blk_new w3 (.cells #[.int .i64 b, .int .i64 u, .slice a3 M.length c3] 26); replace g0 := blk_alloc g0 (.cells #[.int .i64 b, .int .i64 u, .slice a3 M.length c3] 26); replace hw0 := hw0.alloc hw0.size (.cells #[.int .i64 b, .int .i64 u, .slice a3 M.length c3] 26); replace hl3 := hl3.below (below1 w3 (.cells #[.int .i64 b, .int .i64 u, .slice a3 M.length c3] 26)))
    | (go_at_call 27; refine (HLg.out _ _ _ _ _ hl3 hl4').mono ?_; rintro e w5 ⟨rfl, hb5⟩; replace hw0 := hw0.trans (hb5.mono hw0.size); replace g0 := blk_keep hb5 g0; obtain ⟨hc0, hc1, hc2, _, _, _, hlt0⟩ := box3 g0; replace gX := blk_keep hb5 gX; obtain ⟨xc0, xc1, xc2, _, _, _, xlt⟩ := box3 gX; replace hl3 := hl3.below hb5))
  obtain ⟨xc0, xc1, xc2, _, _, _, xlt⟩ := box3 gX
  go_loopw [16] (fun c wr => ∃ j : Nat, j ≤ more.length ∧ c = .int .i64 j ∧ LogIn wr a3 c3 M ∧ wr.heap[w3.heap.size]? = some (.cells #[.int .i64 b, .int .i64 u, .slice a3 M.length c3] 26) ∧ wr.heap[w.heap.size]? = some (.cells #[.int .i64 b, .int .i64 u, .slice a es.length cap] 26) ∧ Below w.heap.size w wr) (fun c _ => more.length - (intOf c).toNat)
  case atStart => exact ⟨0, by omega, rfl, hl3, gX, g0, hw0⟩
  case round =>
    obtain ⟨j, hj, rfl, hl6, gX, g0, hw0⟩ := hrel
    obtain ⟨xc0, xc1, xc2, _, _, _, xlt⟩ := box3 gX
    obtain ⟨hc0, hc1, hc2, _, _, _, hlt0⟩ := box3 g0
    by_cases hlt : j < more.length
    · obtain ⟨mb, moff, rfl, hmlt, m0, mx⟩ := entry_cells (HMR.out.row.below hw0) hlt
      clear mx
      have HT2 : Hid (∀ W a c, LogIn W a c M → Calls Try.prog 30 #[logV b u a M.length c, .int .i64 (b + (k0 : Int) + 1 + (j : Int))] W fun e w' => e = .returned (.tuple #[.int .i64 (more[j]).1, .bool true]) ∧ Below W.heap.size W w') := fun W a c h => HTer.out W a c j hlt h
      generalize (more[j]'hlt).1 = X at m0 HT2
      have hj0 : (0 : Int) ≤ (j : Int) := by omega
      have hj1 : (j : Int) < (more.length : Int) := by omega
      have hj2 : (j : Int) ≤ 100 := by omega
      go_wp2_with (go_at_call 30; refine (HT2.out _ _ _ hl6).mono ?_; rintro e w7 ⟨rfl, hb7⟩; replace m0 := ((bcell hb7).1 _ _ hmlt).trans m0; have hmlt7 := Nat.lt_of_lt_of_le hmlt hb7.size)
      go_roundw
      case rel => exact ⟨j + 1, by omega, by go_num, hl6.below hb7, blk_keep hb7 gX, blk_keep hb7 g0, hw0.trans (hb7.mono hw0.size)⟩
      case measure => simp [intOf]; omega
    · have hl6d : LogIn wr.drew a3 c3 M := ⟨hl6.row, hl6.cap, hl6.none_, hl6.max⟩
      have hib : b + (k0 : Int) - b = (k0 : Int) := by omega
      have hwb : IntKind.i64.wrap (b + 1) = b + 1 := by rw [IntKind.wrap_i64]; omega
      have hwk : IntKind.i64.wrap (k0 : Int) = (k0 : Int) := by rw [IntKind.wrap_i64]; omega
      go_wp2
      go_region_held3 (fun W => W.cell? ⟨w3.heap.size, 0, none⟩ = some (.int .i64 b) ∧ W.cell? ⟨w3.heap.size, 1, none⟩ = some (.int .i64 u) ∧ W.cell? ⟨w3.heap.size, 2, none⟩ = some (.slice a3 M.length c3) ∧ W.cell? ⟨w.heap.size, 0, none⟩ = some (.int .i64 b) ∧ W.cell? ⟨w.heap.size, 1, none⟩ = some (.int .i64 u) ∧ W.cell? ⟨w.heap.size, 2, none⟩ = some (.slice a es.length cap)) (first | exact ⟨qxc0, qxc1, qxc2, qhc0, qhc1, qhc2⟩ | exact ⟨zxc0, zxc1, zxc2, zhc0, zhc1, zhc2⟩ | exact ⟨yxc0, yxc1, yxc2, yhc0, yhc1, yhc2⟩ | exact ⟨xc0, xc1, xc2, hc0, hc1, hc2⟩) (first
        | (go_at_call 31; refine (HSm.out _ _ _ _ _ (RowAt.of_own (own_below hown7 hb8)) (RowAt.of_own hown8)).mono ?_; rintro e w9 ⟨rfl, hb9⟩; have hb9' := hb8'.trans (hb9.mono hb8'.size); have qxc0 := ((bcell hb9').1 _ _ xlt).trans xc0; have qxc1 := ((bcell hb9').1 _ _ xlt).trans xc1; have qxc2 := ((bcell hb9').1 _ _ xlt).trans xc2; have qhc0 := ((bcell hb9').1 _ _ hlt0).trans hc0; have qhc1 := ((bcell hb9').1 _ _ hlt0).trans hc1; have qhc2 := ((bcell hb9').1 _ _ hlt0).trans hc2)
        | (go_at_call 32; refine (HFrE.out _ (hw0.trans (hb7'.mono hw0.size))).mono ?_; rintro e w8 ⟨a8, c8, rfl, hown8, hb8⟩; have hb8' := hb7'.trans (hb8.mono hb7'.size); have zxc0 := ((bcell hb8').1 _ _ xlt).trans xc0; have zxc1 := ((bcell hb8').1 _ _ xlt).trans xc1; have zxc2 := ((bcell hb8').1 _ _ xlt).trans xc2; have zhc0 := ((bcell hb8').1 _ _ hlt0).trans hc0; have zhc1 := ((bcell hb8').1 _ _ hlt0).trans hc1; have zhc2 := ((bcell hb8').1 _ _ hlt0).trans hc2)
        | (go_at_call 32; refine (HFrM.out _ _ _ hl6d).mono ?_; rintro e w7 ⟨a7, c7, rfl, hown7, hb7⟩; have hb7' : Below wr.heap.size wr w7 := (below0 wr).drew.trans (hb7.mono (below0 wr).drew.size); have yxc0 := ((bcell hb7').1 _ _ xlt).trans xc0; have yxc1 := ((bcell hb7').1 _ _ xlt).trans xc1; have yxc2 := ((bcell hb7').1 _ _ xlt).trans xc2; have yhc0 := ((bcell hb7').1 _ _ hlt0).trans hc0; have yhc1 := ((bcell hb7').1 _ _ hlt0).trans hc1; have yhc2 := ((bcell hb7').1 _ _ hlt0).trans hc2))
      go_wp2
      go_ret
      exact ⟨rfl, hw0.trans (hb9'.mono hw0.size)⟩
end Go.Proofs.Ytifbcdjabdfeeaa
