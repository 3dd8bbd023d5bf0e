/-
  Layer 4's laws: EntriesGoes.
-/
import Derived.Test.YtifbcdjabdfeeaaEntriesP
namespace Go.Proofs.Ytifbcdjabdfeeaa
open Go.RowKit
set_option linter.unusedVariables false
set_option maxRecDepth 100000 in
set_option maxHeartbeats 12800000 in
theorem entriesGoes_walk (ah : Option Addr) (ch : Nat) (head : List En) (aa : Option Addr) (ca : Nat) (us : List En) (ab : Option Addr) (cb : Nat) (vs : List En) (am : Option Addr) (cm : Nat) (more : List En) (w : World) (hh : LogIn w ah ch head) (ha : LogIn w aa ca us) (hb : LogIn w ab cb vs) (hm : LogIn w am cm more) :
    Calls Try.prog 13 #[.slice ah head.length ch, .slice aa us.length ca, .slice ab vs.length cb, .slice am more.length cm] w fun e w' => e = .returned (.bool true) ∧ Below w.heap.size w w' := by
  by_cases s_head : (60 : Int) < (head.length : Int)
  · clear hh ha hb hm
    go_enter Try.func13, Try.ntmps13
    go_wp2_with (go_at_call 24; refine (entriesAwake_any _).mono ?_; rintro e w1 ⟨rfl, hw1⟩)
    go_ret
    exact ⟨rfl, hw1⟩
  have n_head : head.length ≤ 60 := by omega
  by_cases s_us : (60 : Int) < (us.length : Int)
  · clear hh ha hb hm
    go_enter Try.func13, Try.ntmps13
    go_wp2_with (go_at_call 24; refine (entriesAwake_any _).mono ?_; rintro e w1 ⟨rfl, hw1⟩)
    go_ret
    exact ⟨rfl, hw1⟩
  have n_us : us.length ≤ 60 := by omega
  by_cases s_vs : (60 : Int) < (vs.length : Int)
  · clear hh ha hb hm
    go_enter Try.func13, Try.ntmps13
    go_wp2_with (go_at_call 24; refine (entriesAwake_any _).mono ?_; rintro e w1 ⟨rfl, hw1⟩)
    go_ret
    exact ⟨rfl, hw1⟩
  have n_vs : vs.length ≤ 60 := by omega
  by_cases s_more : (60 : Int) < (more.length : Int)
  · clear hh ha hb hm
    go_enter Try.func13, Try.ntmps13
    go_wp2_with (go_at_call 24; refine (entriesAwake_any _).mono ?_; rintro e w1 ⟨rfl, hw1⟩)
    go_ret
    exact ⟨rfl, hw1⟩
  have n_more : more.length ≤ 60 := by omega
  have HRh := Lib.hid hh
  have HRa := Lib.hid ha
  have HRb := Lib.hid hb
  have HRm := Lib.hid hm
  have HEh : Hid ((ensV head).length = head.length * 7) := ensV_length head
  have HEa : Hid ((ensV us).length = us.length * 7) := ensV_length us
  have HEb : Hid ((ensV vs).length = vs.length * 7) := ensV_length vs
  have HMx : Hid (∀ W A c, LogIn W A c (head ++ us) → Calls Try.prog 28 #[logV 0 0 A (head.length + us.length) c] W fun e w' => e = .returned (.bool (mayL 0 0 (head ++ us))) ∧ Below W.heap.size W w') := fun W A c h => by
    have := may_any 0 0 A c (head ++ us) W h
    rwa [List.length_append] at this
  have HMy : Hid (∀ W A c, LogIn W A c (head ++ vs) → Calls Try.prog 28 #[logV 0 0 A (head.length + vs.length) c] W fun e w' => e = .returned (.bool (mayL 0 0 (head ++ vs))) ∧ Below W.heap.size W w') := fun W A c h => by
    have := may_any 0 0 A c (head ++ vs) W h
    rwa [List.length_append] at this
  have HTe : Hid (∀ W A c, LogIn W A c (head ++ us) → Calls Try.prog 30 #[logV 0 0 A (head.length + us.length) c, .int .i64 (head.length : Int)] W fun e w' => e = .returned (.tuple #[.int .i64 (termF 0 0 (head ++ us) head.length).1, .bool (termF 0 0 (head ++ us) head.length).2]) ∧ Below W.heap.size W w') := fun W A c h => by
    have := term_any 0 0 A c (head ++ us) (head.length : Int) W h
    rwa [List.length_append] at this
  have HAx : Hid (∀ E W A c, LogIn W A c (head ++ us) → Below w.heap.size w W → Calls Try.prog 25 #[logV 0 0 A (head.length + us.length) c, .int .i64 (head.length : Int), .int .i64 E, .slice am more.length cm] W (RetLog (addF 0 0 (head ++ us) head.length E more) W)) := fun E W A c h h' => by
    have := add_any 0 0 A c (head ++ us) (head.length : Int) E am cm more W h (hm.below h') (by omega)
    rwa [List.length_append] at this
  have HAy : Hid (∀ E W A c, LogIn W A c (head ++ vs) → Below w.heap.size w W → Calls Try.prog 25 #[logV 0 0 A (head.length + vs.length) c, .int .i64 (head.length : Int), .int .i64 E, .slice am more.length cm] W (RetLog (addF 0 0 (head ++ vs) head.length E more) W)) := fun E W A c h h' => by
    have := add_any 0 0 A c (head ++ vs) (head.length : Int) E am cm more W h (hm.below h') (by omega)
    rwa [List.length_append] at this
  clear hh ha hb hm
  cases hmx : mayL 0 0 (head ++ us) with
  | false =>
    rw [hmx] at HMx
    clear hmx
    go_enter Try.func13, Try.ntmps13
    go_wp2_with (first
      | (go_at_call 24; refine (entriesAwake_any _).mono ?_; rintro e w1 ⟨rfl, hw1⟩)
      | (at_builtin; refine wpList_append_row rfl (.const (.slice none 0 0)) (.tmp 49) rfl elemE w1.heap.size (.slice none 0 0) 0 [] (by rfl) (World.ownsRow_nil _ _ _ _) ah head.length ch (ensV head) (by rfl) HEh.out (HRh.out.row.below hw1) (ensV_one _) (by unfold maxLen; omega) (by omega) (Nat.le_refl _) HRh.out.none_ ?_; intro a2 c2 w2 hown2 hg2 hat2; simp only [Nat.zero_add, List.nil_append] at hown2; have hq2 := Below.appended (below0 w1) (World.ownsRow_nil w1 w1.heap.size 55 7) hg2 (Nat.le_refl _) (Nat.le_refl _); have hw2 := hw1.trans (hq2.mono hw1.size); have hsz2 := hq2.size)
      | (at_builtin; refine wpList_append_row rfl (.tmp 50) (.tmp 51) rfl elemE w1.heap.size (.slice a2 head.length c2) head.length (ensV head) (by rfl) hown2 aa us.length ca (ensV us) (by rfl) HEa.out (HRa.out.row.below hw2) (ensV_one _) (by unfold maxLen; omega) (by omega) hsz2 HRa.out.none_ ?_; intro a3 c3 w3 hown3 hg3 hat3; have hq3 := Below.appended hq2 hown2 hg3 hsz2 (Nat.le_refl _); have hw3 := hw1.trans (hq3.mono hw1.size); have hl3 := LogIn.of_own (es := head ++ us) (by rw [List.length_append, ensV_append]; exact hown3); have gX0 := blk_new w3 (.cells #[.int .i64 0, .int .i64 0, .slice a3 (head.length + us.length) c3] 26); have hv3 := hw3.alloc hw3.size (.cells #[.int .i64 0, .int .i64 0, .slice a3 (head.length + us.length) c3] 26); have hl3' := hl3.below (below1 w3 (.cells #[.int .i64 0, .int .i64 0, .slice a3 (head.length + us.length) c3] 26)))
      | (at_builtin; refine wpList_append_row rfl (.const (.slice none 0 0)) (.tmp 54) rfl elemE (w3.alloc (.cells #[.int .i64 0, .int .i64 0, .slice a3 (head.length + us.length) c3] 26)).heap.size (.slice none 0 0) 0 [] (by rfl) (World.ownsRow_nil _ _ _ _) ah head.length ch (ensV head) (by rfl) HEh.out (HRh.out.row.below hv3) (ensV_one _) (by unfold maxLen; omega) (by omega) (Nat.le_refl _) HRh.out.none_ ?_; intro a4 c4 w4 hown4 hg4 hat4; simp only [Nat.zero_add, List.nil_append] at hown4; have hq4 := Below.appended (below0 (w3.alloc (.cells #[.int .i64 0, .int .i64 0, .slice a3 (head.length + us.length) c3] 26))) (World.ownsRow_nil (w3.alloc (.cells #[.int .i64 0, .int .i64 0, .slice a3 (head.length + us.length) c3] 26)) (w3.alloc (.cells #[.int .i64 0, .int .i64 0, .slice a3 (head.length + us.length) c3] 26)).heap.size 55 7) hg4 (Nat.le_refl _) (Nat.le_refl _); have hw4 := hv3.trans (hq4.mono hv3.size); have hsz4 := hq4.size)
      | (at_builtin; refine wpList_append_row rfl (.tmp 55) (.tmp 56) rfl elemE (w3.alloc (.cells #[.int .i64 0, .int .i64 0, .slice a3 (head.length + us.length) c3] 26)).heap.size (.slice a4 head.length c4) head.length (ensV head) (by rfl) hown4 ab vs.length cb (ensV vs) (by rfl) HEb.out (HRb.out.row.below hw4) (ensV_one _) (by unfold maxLen; omega) (by omega) hsz4 HRb.out.none_ ?_; intro a5 c5 w5 hown5 hg5 hat5; have hq5 := Below.appended hq4 hown4 hg5 hsz4 (Nat.le_refl _); have hw5 := hv3.trans (hq5.mono hv3.size); have hl5 := LogIn.of_own (es := head ++ vs) (by rw [List.length_append, ensV_append]; exact hown5); have hb5 := hq5.alloc hq5.size (.cells #[.int .i64 0, .int .i64 0, .slice a5 (head.length + vs.length) c5] 26); have gX := blk_keep hb5 gX0; have hlx := hl3'.below hb5; have gY := blk_new w5 (.cells #[.int .i64 0, .int .i64 0, .slice a5 (head.length + vs.length) c5] 26); have hly := hl5.below (below1 w5 (.cells #[.int .i64 0, .int .i64 0, .slice a5 (head.length + vs.length) c5] 26)); have hw0 := hw5.alloc hw5.size (.cells #[.int .i64 0, .int .i64 0, .slice a5 (head.length + vs.length) c5] 26); obtain ⟨xc0, xc1, xc2, _, _, _, xlt⟩ := box3 gX; obtain ⟨yc0, yc1, yc2, _, _, _, ylt⟩ := box3 gY)
      | (go_at_call 28; (with_reducible refine (HMx.out _ _ _ hlx).mono ?_); rintro e w6 ⟨rfl, hb6⟩; replace hw0 := hw0.trans (hb6.mono hw0.size); replace gX := blk_keep hb6 gX; replace gY := blk_keep hb6 gY; replace hlx := hlx.below hb6; replace hly := hly.below hb6; obtain ⟨xc0, xc1, xc2, _, _, _, xlt⟩ := box3 gX; obtain ⟨yc0, yc1, yc2, _, _, _, ylt⟩ := box3 gY))
    go_ret
    exact ⟨rfl, hw0⟩
  | true =>
  rw [hmx] at HMx
  cases hmy : mayL 0 0 (head ++ vs) with
  | false =>
    rw [hmy] at HMy
    clear hmx hmy
    go_enter Try.func13, Try.ntmps13
    go_wp2_with (first
      | (go_at_call 24; refine (entriesAwake_any _).mono ?_; rintro e w1 ⟨rfl, hw1⟩)
      | (at_builtin; refine wpList_append_row rfl (.const (.slice none 0 0)) (.tmp 49) rfl elemE w1.heap.size (.slice none 0 0) 0 [] (by rfl) (World.ownsRow_nil _ _ _ _) ah head.length ch (ensV head) (by rfl) HEh.out (HRh.out.row.below hw1) (ensV_one _) (by unfold maxLen; omega) (by omega) (Nat.le_refl _) HRh.out.none_ ?_; intro a2 c2 w2 hown2 hg2 hat2; simp only [Nat.zero_add, List.nil_append] at hown2; have hq2 := Below.appended (below0 w1) (World.ownsRow_nil w1 w1.heap.size 55 7) hg2 (Nat.le_refl _) (Nat.le_refl _); have hw2 := hw1.trans (hq2.mono hw1.size); have hsz2 := hq2.size)
      | (at_builtin; refine wpList_append_row rfl (.tmp 50) (.tmp 51) rfl elemE w1.heap.size (.slice a2 head.length c2) head.length (ensV head) (by rfl) hown2 aa us.length ca (ensV us) (by rfl) HEa.out (HRa.out.row.below hw2) (ensV_one _) (by unfold maxLen; omega) (by omega) hsz2 HRa.out.none_ ?_; intro a3 c3 w3 hown3 hg3 hat3; have hq3 := Below.appended hq2 hown2 hg3 hsz2 (Nat.le_refl _); have hw3 := hw1.trans (hq3.mono hw1.size); have hl3 := LogIn.of_own (es := head ++ us) (by rw [List.length_append, ensV_append]; exact hown3); have gX0 := blk_new w3 (.cells #[.int .i64 0, .int .i64 0, .slice a3 (head.length + us.length) c3] 26); have hv3 := hw3.alloc hw3.size (.cells #[.int .i64 0, .int .i64 0, .slice a3 (head.length + us.length) c3] 26); have hl3' := hl3.below (below1 w3 (.cells #[.int .i64 0, .int .i64 0, .slice a3 (head.length + us.length) c3] 26)))
      | (at_builtin; refine wpList_append_row rfl (.const (.slice none 0 0)) (.tmp 54) rfl elemE (w3.alloc (.cells #[.int .i64 0, .int .i64 0, .slice a3 (head.length + us.length) c3] 26)).heap.size (.slice none 0 0) 0 [] (by rfl) (World.ownsRow_nil _ _ _ _) ah head.length ch (ensV head) (by rfl) HEh.out (HRh.out.row.below hv3) (ensV_one _) (by unfold maxLen; omega) (by omega) (Nat.le_refl _) HRh.out.none_ ?_; intro a4 c4 w4 hown4 hg4 hat4; simp only [Nat.zero_add, List.nil_append] at hown4; have hq4 := Below.appended (below0 (w3.alloc (.cells #[.int .i64 0, .int .i64 0, .slice a3 (head.length + us.length) c3] 26))) (World.ownsRow_nil (w3.alloc (.cells #[.int .i64 0, .int .i64 0, .slice a3 (head.length + us.length) c3] 26)) (w3.alloc (.cells #[.int .i64 0, .int .i64 0, .slice a3 (head.length + us.length) c3] 26)).heap.size 55 7) hg4 (Nat.le_refl _) (Nat.le_refl _); have hw4 := hv3.trans (hq4.mono hv3.size); have hsz4 := hq4.size)
      | (at_builtin; refine wpList_append_row rfl (.tmp 55) (.tmp 56) rfl elemE (w3.alloc (.cells #[.int .i64 0, .int .i64 0, .slice a3 (head.length + us.length) c3] 26)).heap.size (.slice a4 head.length c4) head.length (ensV head) (by rfl) hown4 ab vs.length cb (ensV vs) (by rfl) HEb.out (HRb.out.row.below hw4) (ensV_one _) (by unfold maxLen; omega) (by omega) hsz4 HRb.out.none_ ?_; intro a5 c5 w5 hown5 hg5 hat5; have hq5 := Below.appended hq4 hown4 hg5 hsz4 (Nat.le_refl _); have hw5 := hv3.trans (hq5.mono hv3.size); have hl5 := LogIn.of_own (es := head ++ vs) (by rw [List.length_append, ensV_append]; exact hown5); have hb5 := hq5.alloc hq5.size (.cells #[.int .i64 0, .int .i64 0, .slice a5 (head.length + vs.length) c5] 26); have gX := blk_keep hb5 gX0; have hlx := hl3'.below hb5; have gY := blk_new w5 (.cells #[.int .i64 0, .int .i64 0, .slice a5 (head.length + vs.length) c5] 26); have hly := hl5.below (below1 w5 (.cells #[.int .i64 0, .int .i64 0, .slice a5 (head.length + vs.length) c5] 26)); have hw0 := hw5.alloc hw5.size (.cells #[.int .i64 0, .int .i64 0, .slice a5 (head.length + vs.length) c5] 26); obtain ⟨xc0, xc1, xc2, _, _, _, xlt⟩ := box3 gX; obtain ⟨yc0, yc1, yc2, _, _, _, ylt⟩ := box3 gY)
      | (go_at_call 28; (with_reducible refine (HMx.out _ _ _ hlx).mono ?_); rintro e w6 ⟨rfl, hb6⟩; replace hw0 := hw0.trans (hb6.mono hw0.size); replace gX := blk_keep hb6 gX; replace gY := blk_keep hb6 gY; replace hlx := hlx.below hb6; replace hly := hly.below hb6; obtain ⟨xc0, xc1, xc2, _, _, _, xlt⟩ := box3 gX; obtain ⟨yc0, yc1, yc2, _, _, _, ylt⟩ := box3 gY)
      | (go_at_call 28; (with_reducible refine (HMy.out _ _ _ hly).mono ?_); rintro e w7 ⟨rfl, hb7⟩; replace hw0 := hw0.trans (hb7.mono hw0.size); replace gX := blk_keep hb7 gX; replace gY := blk_keep hb7 gY; replace hlx := hlx.below hb7; replace hly := hly.below hb7; obtain ⟨xc0, xc1, xc2, _, _, _, xlt⟩ := box3 gX; obtain ⟨yc0, yc1, yc2, _, _, _, ylt⟩ := box3 gY))
    go_ret
    exact ⟨rfl, hw0⟩
  | true =>
  rw [hmy] at HMy
  generalize hE : (termF 0 0 (head ++ us) head.length).1 = E at HTe
  generalize (termF 0 0 (head ++ us) head.length).2 = E2 at HTe
  have HBx : Hid _ := Lib.hid (HAx.out E)
  have HBy : Hid _ := Lib.hid (HAy.out E)
  clear HAx HAy
  by_cases hrx : (addF 0 0 (head ++ us) head.length E more).2.2.2 = 0
  rotate_left 1
  · clear hmx hmy hE
    generalize addF 0 0 (head ++ us) head.length E more = r at HBx hrx
    generalize addF 0 0 (head ++ vs) head.length E more = s at HBy
    obtain ⟨rb, rt, rl, re⟩ := r
    obtain ⟨sb, st, sl, se⟩ := s
    simp only at hrx
    have hrx1 : (re != 0) = true := by simpa using hrx
    clear hrx
    go_enter Try.func13, Try.ntmps13
    go_wp2_with (first
      | (go_at_call 24; refine (entriesAwake_any _).mono ?_; rintro e w1 ⟨rfl, hw1⟩)
      | (at_builtin; refine wpList_append_row rfl (.const (.slice none 0 0)) (.tmp 49) rfl elemE w1.heap.size (.slice none 0 0) 0 [] (by rfl) (World.ownsRow_nil _ _ _ _) ah head.length ch (ensV head) (by rfl) HEh.out (HRh.out.row.below hw1) (ensV_one _) (by unfold maxLen; omega) (by omega) (Nat.le_refl _) HRh.out.none_ ?_; intro a2 c2 w2 hown2 hg2 hat2; simp only [Nat.zero_add, List.nil_append] at hown2; have hq2 := Below.appended (below0 w1) (World.ownsRow_nil w1 w1.heap.size 55 7) hg2 (Nat.le_refl _) (Nat.le_refl _); have hw2 := hw1.trans (hq2.mono hw1.size); have hsz2 := hq2.size)
      | (at_builtin; refine wpList_append_row rfl (.tmp 50) (.tmp 51) rfl elemE w1.heap.size (.slice a2 head.length c2) head.length (ensV head) (by rfl) hown2 aa us.length ca (ensV us) (by rfl) HEa.out (HRa.out.row.below hw2) (ensV_one _) (by unfold maxLen; omega) (by omega) hsz2 HRa.out.none_ ?_; intro a3 c3 w3 hown3 hg3 hat3; have hq3 := Below.appended hq2 hown2 hg3 hsz2 (Nat.le_refl _); have hw3 := hw1.trans (hq3.mono hw1.size); have hl3 := LogIn.of_own (es := head ++ us) (by rw [List.length_append, ensV_append]; exact hown3); have gX0 := blk_new w3 (.cells #[.int .i64 0, .int .i64 0, .slice a3 (head.length + us.length) c3] 26); have hv3 := hw3.alloc hw3.size (.cells #[.int .i64 0, .int .i64 0, .slice a3 (head.length + us.length) c3] 26); have hl3' := hl3.below (below1 w3 (.cells #[.int .i64 0, .int .i64 0, .slice a3 (head.length + us.length) c3] 26)))
      | (at_builtin; refine wpList_append_row rfl (.const (.slice none 0 0)) (.tmp 54) rfl elemE (w3.alloc (.cells #[.int .i64 0, .int .i64 0, .slice a3 (head.length + us.length) c3] 26)).heap.size (.slice none 0 0) 0 [] (by rfl) (World.ownsRow_nil _ _ _ _) ah head.length ch (ensV head) (by rfl) HEh.out (HRh.out.row.below hv3) (ensV_one _) (by unfold maxLen; omega) (by omega) (Nat.le_refl _) HRh.out.none_ ?_; intro a4 c4 w4 hown4 hg4 hat4; simp only [Nat.zero_add, List.nil_append] at hown4; have hq4 := Below.appended (below0 (w3.alloc (.cells #[.int .i64 0, .int .i64 0, .slice a3 (head.length + us.length) c3] 26))) (World.ownsRow_nil (w3.alloc (.cells #[.int .i64 0, .int .i64 0, .slice a3 (head.length + us.length) c3] 26)) (w3.alloc (.cells #[.int .i64 0, .int .i64 0, .slice a3 (head.length + us.length) c3] 26)).heap.size 55 7) hg4 (Nat.le_refl _) (Nat.le_refl _); have hw4 := hv3.trans (hq4.mono hv3.size); have hsz4 := hq4.size)
      | (at_builtin; refine wpList_append_row rfl (.tmp 55) (.tmp 56) rfl elemE (w3.alloc (.cells #[.int .i64 0, .int .i64 0, .slice a3 (head.length + us.length) c3] 26)).heap.size (.slice a4 head.length c4) head.length (ensV head) (by rfl) hown4 ab vs.length cb (ensV vs) (by rfl) HEb.out (HRb.out.row.below hw4) (ensV_one _) (by unfold maxLen; omega) (by omega) hsz4 HRb.out.none_ ?_; intro a5 c5 w5 hown5 hg5 hat5; have hq5 := Below.appended hq4 hown4 hg5 hsz4 (Nat.le_refl _); have hw5 := hv3.trans (hq5.mono hv3.size); have hl5 := LogIn.of_own (es := head ++ vs) (by rw [List.length_append, ensV_append]; exact hown5); have hb5 := hq5.alloc hq5.size (.cells #[.int .i64 0, .int .i64 0, .slice a5 (head.length + vs.length) c5] 26); have gX := blk_keep hb5 gX0; have hlx := hl3'.below hb5; have gY := blk_new w5 (.cells #[.int .i64 0, .int .i64 0, .slice a5 (head.length + vs.length) c5] 26); have hly := hl5.below (below1 w5 (.cells #[.int .i64 0, .int .i64 0, .slice a5 (head.length + vs.length) c5] 26)); have hw0 := hw5.alloc hw5.size (.cells #[.int .i64 0, .int .i64 0, .slice a5 (head.length + vs.length) c5] 26); obtain ⟨xc0, xc1, xc2, _, _, _, xlt⟩ := box3 gX; obtain ⟨yc0, yc1, yc2, _, _, _, ylt⟩ := box3 gY)
      | (go_at_call 28; (with_reducible refine (HMx.out _ _ _ hlx).mono ?_); rintro e w6 ⟨rfl, hb6⟩; replace hw0 := hw0.trans (hb6.mono hw0.size); replace gX := blk_keep hb6 gX; replace gY := blk_keep hb6 gY; replace hlx := hlx.below hb6; replace hly := hly.below hb6; obtain ⟨xc0, xc1, xc2, _, _, _, xlt⟩ := box3 gX; obtain ⟨yc0, yc1, yc2, _, _, _, ylt⟩ := box3 gY)
      | (go_at_call 28; (with_reducible refine (HMy.out _ _ _ hly).mono ?_); rintro e w7 ⟨rfl, hb7⟩; replace hw0 := hw0.trans (hb7.mono hw0.size); replace gX := blk_keep hb7 gX; replace gY := blk_keep hb7 gY; replace hlx := hlx.below hb7; replace hly := hly.below hb7; obtain ⟨xc0, xc1, xc2, _, _, _, xlt⟩ := box3 gX; obtain ⟨yc0, yc1, yc2, _, _, _, ylt⟩ := box3 gY)
      | (go_at_call 30; refine (HTe.out _ _ _ hlx).mono ?_; rintro e w8 ⟨rfl, hb8⟩; replace hw0 := hw0.trans (hb8.mono hw0.size); replace gX := blk_keep hb8 gX; replace gY := blk_keep hb8 gY; replace hlx := hlx.below hb8; replace hly := hly.below hb8; obtain ⟨xc0, xc1, xc2, _, _, _, xlt⟩ := box3 gX; obtain ⟨yc0, yc1, yc2, _, _, _, ylt⟩ := box3 gY)
      | (go_at_call 25; (with_reducible refine (HBx.out _ _ _ hlx hw0).mono ?_); rintro e w9 ⟨a9, c9, rfl, hl9, _, hb9⟩; replace hw0 := hw0.trans (hb9.mono hw0.size); replace gX := blk_keep hb9 gX; replace gY := blk_keep hb9 gY; replace hlx := hlx.below hb9; replace hly := hly.below hb9; obtain ⟨xc0, xc1, xc2, _, _, _, xlt⟩ := box3 gX; obtain ⟨yc0, yc1, yc2, _, _, _, ylt⟩ := box3 gY; have gP := blk_new w9 (.cells #[.int .i64 rb, .int .i64 rt, .slice a9 rl.length c9] 26); have hlp := hl9.below (below1 w9 (.cells #[.int .i64 rb, .int .i64 rt, .slice a9 rl.length c9] 26)); replace hw0 := hw0.alloc hw0.size (.cells #[.int .i64 rb, .int .i64 rt, .slice a9 rl.length c9] 26); replace gX := blk_alloc gX (.cells #[.int .i64 rb, .int .i64 rt, .slice a9 rl.length c9] 26); replace gY := blk_alloc gY (.cells #[.int .i64 rb, .int .i64 rt, .slice a9 rl.length c9] 26); replace hlx := hlx.below (below1 w9 (.cells #[.int .i64 rb, .int .i64 rt, .slice a9 rl.length c9] 26)); replace hly := hly.below (below1 w9 (.cells #[.int .i64 rb, .int .i64 rt, .slice a9 rl.length c9] 26)))
      | (go_at_call 25; (with_reducible refine (HBy.out _ _ _ hly hw0).mono ?_); rintro e w10 ⟨a10, c10, rfl, hl10, _, hb10⟩; replace gP := blk_keep hb10 gP; replace hlp := hlp.below hb10; replace hw0 := hw0.trans (hb10.mono hw0.size); replace gX := blk_keep hb10 gX; replace gY := blk_keep hb10 gY; replace hlx := hlx.below hb10; replace hly := hly.below hb10; obtain ⟨xc0, xc1, xc2, _, _, _, xlt⟩ := box3 gX; obtain ⟨yc0, yc1, yc2, _, _, _, ylt⟩ := box3 gY; have gQ := blk_new w10 (.cells #[.int .i64 sb, .int .i64 st, .slice a10 sl.length c10] 26); have hlq := hl10.below (below1 w10 (.cells #[.int .i64 sb, .int .i64 st, .slice a10 sl.length c10] 26)); replace hw0 := hw0.alloc hw0.size (.cells #[.int .i64 sb, .int .i64 st, .slice a10 sl.length c10] 26); replace gP := blk_alloc gP (.cells #[.int .i64 sb, .int .i64 st, .slice a10 sl.length c10] 26); replace hlp := hlp.below (below1 w10 (.cells #[.int .i64 sb, .int .i64 st, .slice a10 sl.length c10] 26)); obtain ⟨pc0, pc1, pc2, _, _, _, plt⟩ := box3 gP; obtain ⟨qc0, qc1, qc2, _, _, _, qlt⟩ := box3 gQ))
    go_ret
    exact ⟨rfl, hw0⟩
  by_cases hry : (addF 0 0 (head ++ vs) head.length E more).2.2.2 = 0
  rotate_left 1
  · clear hmx hmy hE
    generalize addF 0 0 (head ++ us) head.length E more = r at HBx hrx
    generalize addF 0 0 (head ++ vs) head.length E more = s at HBy hry
    obtain ⟨rb, rt, rl, re⟩ := r
    obtain ⟨sb, st, sl, se⟩ := s
    simp only at hrx hry
    subst hrx
    have hry1 : (se != 0) = true := by simpa using hry
    clear hry
    go_enter Try.func13, Try.ntmps13
    go_wp2_with (first
      | (go_at_call 24; refine (entriesAwake_any _).mono ?_; rintro e w1 ⟨rfl, hw1⟩)
      | (at_builtin; refine wpList_append_row rfl (.const (.slice none 0 0)) (.tmp 49) rfl elemE w1.heap.size (.slice none 0 0) 0 [] (by rfl) (World.ownsRow_nil _ _ _ _) ah head.length ch (ensV head) (by rfl) HEh.out (HRh.out.row.below hw1) (ensV_one _) (by unfold maxLen; omega) (by omega) (Nat.le_refl _) HRh.out.none_ ?_; intro a2 c2 w2 hown2 hg2 hat2; simp only [Nat.zero_add, List.nil_append] at hown2; have hq2 := Below.appended (below0 w1) (World.ownsRow_nil w1 w1.heap.size 55 7) hg2 (Nat.le_refl _) (Nat.le_refl _); have hw2 := hw1.trans (hq2.mono hw1.size); have hsz2 := hq2.size)
      | (at_builtin; refine wpList_append_row rfl (.tmp 50) (.tmp 51) rfl elemE w1.heap.size (.slice a2 head.length c2) head.length (ensV head) (by rfl) hown2 aa us.length ca (ensV us) (by rfl) HEa.out (HRa.out.row.below hw2) (ensV_one _) (by unfold maxLen; omega) (by omega) hsz2 HRa.out.none_ ?_; intro a3 c3 w3 hown3 hg3 hat3; have hq3 := Below.appended hq2 hown2 hg3 hsz2 (Nat.le_refl _); have hw3 := hw1.trans (hq3.mono hw1.size); have hl3 := LogIn.of_own (es := head ++ us) (by rw [List.length_append, ensV_append]; exact hown3); have gX0 := blk_new w3 (.cells #[.int .i64 0, .int .i64 0, .slice a3 (head.length + us.length) c3] 26); have hv3 := hw3.alloc hw3.size (.cells #[.int .i64 0, .int .i64 0, .slice a3 (head.length + us.length) c3] 26); have hl3' := hl3.below (below1 w3 (.cells #[.int .i64 0, .int .i64 0, .slice a3 (head.length + us.length) c3] 26)))
      | (at_builtin; refine wpList_append_row rfl (.const (.slice none 0 0)) (.tmp 54) rfl elemE (w3.alloc (.cells #[.int .i64 0, .int .i64 0, .slice a3 (head.length + us.length) c3] 26)).heap.size (.slice none 0 0) 0 [] (by rfl) (World.ownsRow_nil _ _ _ _) ah head.length ch (ensV head) (by rfl) HEh.out (HRh.out.row.below hv3) (ensV_one _) (by unfold maxLen; omega) (by omega) (Nat.le_refl _) HRh.out.none_ ?_; intro a4 c4 w4 hown4 hg4 hat4; simp only [Nat.zero_add, List.nil_append] at hown4; have hq4 := Below.appended (below0 (w3.alloc (.cells #[.int .i64 0, .int .i64 0, .slice a3 (head.length + us.length) c3] 26))) (World.ownsRow_nil (w3.alloc (.cells #[.int .i64 0, .int .i64 0, .slice a3 (head.length + us.length) c3] 26)) (w3.alloc (.cells #[.int .i64 0, .int .i64 0, .slice a3 (head.length + us.length) c3] 26)).heap.size 55 7) hg4 (Nat.le_refl _) (Nat.le_refl _); have hw4 := hv3.trans (hq4.mono hv3.size); have hsz4 := hq4.size)
      | (at_builtin; refine wpList_append_row rfl (.tmp 55) (.tmp 56) rfl elemE (w3.alloc (.cells #[.int .i64 0, .int .i64 0, .slice a3 (head.length + us.length) c3] 26)).heap.size (.slice a4 head.length c4) head.length (ensV head) (by rfl) hown4 ab vs.length cb (ensV vs) (by rfl) HEb.out (HRb.out.row.below hw4) (ensV_one _) (by unfold maxLen; omega) (by omega) hsz4 HRb.out.none_ ?_; intro a5 c5 w5 hown5 hg5 hat5; have hq5 := Below.appended hq4 hown4 hg5 hsz4 (Nat.le_refl _); have hw5 := hv3.trans (hq5.mono hv3.size); have hl5 := LogIn.of_own (es := head ++ vs) (by rw [List.length_append, ensV_append]; exact hown5); have hb5 := hq5.alloc hq5.size (.cells #[.int .i64 0, .int .i64 0, .slice a5 (head.length + vs.length) c5] 26); have gX := blk_keep hb5 gX0; have hlx := hl3'.below hb5; have gY := blk_new w5 (.cells #[.int .i64 0, .int .i64 0, .slice a5 (head.length + vs.length) c5] 26); have hly := hl5.below (below1 w5 (.cells #[.int .i64 0, .int .i64 0, .slice a5 (head.length + vs.length) c5] 26)); have hw0 := hw5.alloc hw5.size (.cells #[.int .i64 0, .int .i64 0, .slice a5 (head.length + vs.length) c5] 26); obtain ⟨xc0, xc1, xc2, _, _, _, xlt⟩ := box3 gX; obtain ⟨yc0, yc1, yc2, _, _, _, ylt⟩ := box3 gY)
      | (go_at_call 28; (with_reducible refine (HMx.out _ _ _ hlx).mono ?_); rintro e w6 ⟨rfl, hb6⟩; replace hw0 := hw0.trans (hb6.mono hw0.size); replace gX := blk_keep hb6 gX; replace gY := blk_keep hb6 gY; replace hlx := hlx.below hb6; replace hly := hly.below hb6; obtain ⟨xc0, xc1, xc2, _, _, _, xlt⟩ := box3 gX; obtain ⟨yc0, yc1, yc2, _, _, _, ylt⟩ := box3 gY)
      | (go_at_call 28; (with_reducible refine (HMy.out _ _ _ hly).mono ?_); rintro e w7 ⟨rfl, hb7⟩; replace hw0 := hw0.trans (hb7.mono hw0.size); replace gX := blk_keep hb7 gX; replace gY := blk_keep hb7 gY; replace hlx := hlx.below hb7; replace hly := hly.below hb7; obtain ⟨xc0, xc1, xc2, _, _, _, xlt⟩ := box3 gX; obtain ⟨yc0, yc1, yc2, _, _, _, ylt⟩ := box3 gY)
      | (go_at_call 30; refine (HTe.out _ _ _ hlx).mono ?_; rintro e w8 ⟨rfl, hb8⟩; replace hw0 := hw0.trans (hb8.mono hw0.size); replace gX := blk_keep hb8 gX; replace gY := blk_keep hb8 gY; replace hlx := hlx.below hb8; replace hly := hly.below hb8; obtain ⟨xc0, xc1, xc2, _, _, _, xlt⟩ := box3 gX; obtain ⟨yc0, yc1, yc2, _, _, _, ylt⟩ := box3 gY)
      | (go_at_call 25; (with_reducible refine (HBx.out _ _ _ hlx hw0).mono ?_); rintro e w9 ⟨a9, c9, rfl, hl9, _, hb9⟩; replace hw0 := hw0.trans (hb9.mono hw0.size); replace gX := blk_keep hb9 gX; replace gY := blk_keep hb9 gY; replace hlx := hlx.below hb9; replace hly := hly.below hb9; obtain ⟨xc0, xc1, xc2, _, _, _, xlt⟩ := box3 gX; obtain ⟨yc0, yc1, yc2, _, _, _, ylt⟩ := box3 gY; have gP := blk_new w9 (.cells #[.int .i64 rb, .int .i64 rt, .slice a9 rl.length c9] 26); have hlp := hl9.below (below1 w9 (.cells #[.int .i64 rb, .int .i64 rt, .slice a9 rl.length c9] 26)); replace hw0 := hw0.alloc hw0.size (.cells #[.int .i64 rb, .int .i64 rt, .slice a9 rl.length c9] 26); replace gX := blk_alloc gX (.cells #[.int .i64 rb, .int .i64 rt, .slice a9 rl.length c9] 26); replace gY := blk_alloc gY (.cells #[.int .i64 rb, .int .i64 rt, .slice a9 rl.length c9] 26); replace hlx := hlx.below (below1 w9 (.cells #[.int .i64 rb, .int .i64 rt, .slice a9 rl.length c9] 26)); replace hly := hly.below (below1 w9 (.cells #[.int .i64 rb, .int .i64 rt, .slice a9 rl.length c9] 26)))
      | (go_at_call 25; (with_reducible refine (HBy.out _ _ _ hly hw0).mono ?_); rintro e w10 ⟨a10, c10, rfl, hl10, _, hb10⟩; replace gP := blk_keep hb10 gP; replace hlp := hlp.below hb10; replace hw0 := hw0.trans (hb10.mono hw0.size); replace gX := blk_keep hb10 gX; replace gY := blk_keep hb10 gY; replace hlx := hlx.below hb10; replace hly := hly.below hb10; obtain ⟨xc0, xc1, xc2, _, _, _, xlt⟩ := box3 gX; obtain ⟨yc0, yc1, yc2, _, _, _, ylt⟩ := box3 gY; have gQ := blk_new w10 (.cells #[.int .i64 sb, .int .i64 st, .slice a10 sl.length c10] 26); have hlq := hl10.below (below1 w10 (.cells #[.int .i64 sb, .int .i64 st, .slice a10 sl.length c10] 26)); replace hw0 := hw0.alloc hw0.size (.cells #[.int .i64 sb, .int .i64 st, .slice a10 sl.length c10] 26); replace gP := blk_alloc gP (.cells #[.int .i64 sb, .int .i64 st, .slice a10 sl.length c10] 26); replace hlp := hlp.below (below1 w10 (.cells #[.int .i64 sb, .int .i64 st, .slice a10 sl.length c10] 26)); obtain ⟨pc0, pc1, pc2, _, _, _, plt⟩ := box3 gP; obtain ⟨qc0, qc1, qc2, _, _, _, qlt⟩ := box3 gQ))
    go_ret
    exact ⟨rfl, hw0⟩
  obtain ⟨k1, hk1, hkl1, hmay1, hris, hT1, hadd1, h641⟩ := addF_ok hrx
  obtain ⟨k2, hk2, hkl2, hmay2, _, hT2, hadd2, h642⟩ := addF_ok hry
  obtain rfl : head.length = k1 := by omega
  obtain rfl : head.length = k2 := by omega
  clear hk1 hk2
  rw [hadd1] at HBx
  rw [hadd2] at HBy
  obtain ⟨f1, f2, f3, f4, _⟩ := mergeL_facts (head ++ us) more head.length hkl1
  obtain ⟨g1, g2, g3, g4, _⟩ := mergeL_facts (head ++ vs) more head.length hkl2
  have hm1 := addF_may hrx
  have hm2 := addF_may hry
  rw [hadd1] at hm1
  rw [hadd2] at hm2
  simp only at hm1 hm2
  rw [List.take_left] at f2 g2
  generalize mergeL (head ++ us) head.length more = M at *
  generalize mergeL (head ++ vs) head.length more = N at *
  have HTp : Hid (∀ W a c (j : Nat) (hj : j < more.length), LogIn W a c M → Calls Try.prog 30 #[logV 0 0 a M.length c, .int .i64 ((head.length : Int) + 1 + (j : Int))] W fun e w' => e = .returned (.tuple #[.int .i64 (more[j]).1, .bool true]) ∧ Below W.heap.size W w') := fun W a c j hj h => by
    have := term_any 0 0 a c M ((head.length : Int) + 1 + (j : Int)) W h
    unfold termF at this
    have hkm : head.length + j < M.length := by omega
    have f3j := f3 j hj
    rw [getD_at hkm] at f3j
    rw [fairL_yes hm1, termL_at (es := M) (head.length + j + 1) (by omega) (by omega), endT_take hkm, f3j] at this
    exact this
  have HTq : Hid (∀ W a c (j : Nat) (hj : j < more.length), LogIn W a c N → Calls Try.prog 30 #[logV 0 0 a N.length c, .int .i64 ((head.length : Int) + 1 + (j : Int))] W fun e w' => e = .returned (.tuple #[.int .i64 (more[j]).1, .bool true]) ∧ Below W.heap.size W w') := fun W a c j hj h => by
    have := term_any 0 0 a c N ((head.length : Int) + 1 + (j : Int)) W h
    unfold termF at this
    have hkm : head.length + j < N.length := by omega
    have f3j := g3 j hj
    rw [getD_at hkm] at f3j
    rw [fairL_yes hm2, termL_at (es := N) (head.length + j + 1) (by omega) (by omega), endT_take hkm, f3j] at this
    exact this
  have HFp : Hid (∀ W a c, LogIn W a c M → Calls Try.prog 32 #[logV 0 0 a M.length c, .int .i64 1, .int .i64 (head.length : Int)] W (RetRow 55 7 head.length (ensV head) W)) := fun W a c h => by
    have := from_any 0 0 a c M 1 (head.length : Int) W h
    unfold fromF at this
    rw [fairL_yes hm1] at this
    have e := from_ahead (b := 0) (es := M) (k := head.length) (by omega)
    simp only [Int.zero_add] at e
    simp only [e, f2] at this
    exact this
  have HFq : Hid (∀ W a c, LogIn W a c N → Calls Try.prog 32 #[logV 0 0 a N.length c, .int .i64 1, .int .i64 (head.length : Int)] W (RetRow 55 7 head.length (ensV head) W)) := fun W a c h => by
    have := from_any 0 0 a c N 1 (head.length : Int) W h
    unfold fromF at this
    rw [fairL_yes hm2] at this
    have e := from_ahead (b := 0) (es := N) (k := head.length) (by omega)
    simp only [Int.zero_add] at e
    simp only [e, g2] at this
    exact this
  have HSm : Hid (∀ W A c A' c', RowAt W A (ensV head) → RowAt W A' (ensV head) → Calls Try.prog 31 #[.slice A head.length c, .slice A' head.length c'] W fun e w' => e = .returned (.bool true) ∧ Below W.heap.size W w') := fun W A c A' c' h h' => by
    have := same_any A c head A' c' head W h h' (by unfold maxLen; omega)
    rw [decide_eq_true rfl] at this
    exact this
  have hk00 : (0 : Int) ≤ (head.length : Int) := by omega
  have hk01 : (0 : Int) ≤ (more.length : Int) := by omega
  have hk02 : (head.length : Int) ≤ 60 := by omega
  have hk03 : (more.length : Int) ≤ 60 := by omega
  clear hmx hmy hE hrx hry hkl1 hkl2 hmay1 hmay2 hris hT1 hT2 hadd1 hadd2 h641 h642 f1 f2 f3 f4 g1 g2 g3 g4 hm1 hm2
  go_enter Try.func13, Try.ntmps13
  go_wp2_with (first
    | (go_at_call 24; refine (entriesAwake_any _).mono ?_; rintro e w1 ⟨rfl, hw1⟩)
    | (at_builtin; refine wpList_append_row rfl (.const (.slice none 0 0)) (.tmp 49) rfl elemE w1.heap.size (.slice none 0 0) 0 [] (by rfl) (World.ownsRow_nil _ _ _ _) ah head.length ch (ensV head) (by rfl) HEh.out (HRh.out.row.below hw1) (ensV_one _) (by unfold maxLen; omega) (by omega) (Nat.le_refl _) HRh.out.none_ ?_; intro a2 c2 w2 hown2 hg2 hat2; simp only [Nat.zero_add, List.nil_append] at hown2; have hq2 := Below.appended (below0 w1) (World.ownsRow_nil w1 w1.heap.size 55 7) hg2 (Nat.le_refl _) (Nat.le_refl _); have hw2 := hw1.trans (hq2.mono hw1.size); have hsz2 := hq2.size)
    | (at_builtin; refine wpList_append_row rfl (.tmp 50) (.tmp 51) rfl elemE w1.heap.size (.slice a2 head.length c2) head.length (ensV head) (by rfl) hown2 aa us.length ca (ensV us) (by rfl) HEa.out (HRa.out.row.below hw2) (ensV_one _) (by unfold maxLen; omega) (by omega) hsz2 HRa.out.none_ ?_; intro a3 c3 w3 hown3 hg3 hat3; have hq3 := Below.appended hq2 hown2 hg3 hsz2 (Nat.le_refl _); have hw3 := hw1.trans (hq3.mono hw1.size); have hl3 := LogIn.of_own (es := head ++ us) (by rw [List.length_append, ensV_append]; exact hown3); have gX0 := blk_new w3 (.cells #[.int .i64 0, .int .i64 0, .slice a3 (head.length + us.length) c3] 26); have hv3 := hw3.alloc hw3.size (.cells #[.int .i64 0, .int .i64 0, .slice a3 (head.length + us.length) c3] 26); have hl3' := hl3.below (below1 w3 (.cells #[.int .i64 0, .int .i64 0, .slice a3 (head.length + us.length) c3] 26)))
    | (at_builtin; refine wpList_append_row rfl (.const (.slice none 0 0)) (.tmp 54) rfl elemE (w3.alloc (.cells #[.int .i64 0, .int .i64 0, .slice a3 (head.length + us.length) c3] 26)).heap.size (.slice none 0 0) 0 [] (by rfl) (World.ownsRow_nil _ _ _ _) ah head.length ch (ensV head) (by rfl) HEh.out (HRh.out.row.below hv3) (ensV_one _) (by unfold maxLen; omega) (by omega) (Nat.le_refl _) HRh.out.none_ ?_; intro a4 c4 w4 hown4 hg4 hat4; simp only [Nat.zero_add, List.nil_append] at hown4; have hq4 := Below.appended (below0 (w3.alloc (.cells #[.int .i64 0, .int .i64 0, .slice a3 (head.length + us.length) c3] 26))) (World.ownsRow_nil (w3.alloc (.cells #[.int .i64 0, .int .i64 0, .slice a3 (head.length + us.length) c3] 26)) (w3.alloc (.cells #[.int .i64 0, .int .i64 0, .slice a3 (head.length + us.length) c3] 26)).heap.size 55 7) hg4 (Nat.le_refl _) (Nat.le_refl _); have hw4 := hv3.trans (hq4.mono hv3.size); have hsz4 := hq4.size)
    | (at_builtin; refine wpList_append_row rfl (.tmp 55) (.tmp 56) rfl elemE (w3.alloc (.cells #[.int .i64 0, .int .i64 0, .slice a3 (head.length + us.length) c3] 26)).heap.size (.slice a4 head.length c4) head.length (ensV head) (by rfl) hown4 ab vs.length cb (ensV vs) (by rfl) HEb.out (HRb.out.row.below hw4) (ensV_one _) (by unfold maxLen; omega) (by omega) hsz4 HRb.out.none_ ?_; intro a5 c5 w5 hown5 hg5 hat5; have hq5 := Below.appended hq4 hown4 hg5 hsz4 (Nat.le_refl _); have hw5 := hv3.trans (hq5.mono hv3.size); have hl5 := LogIn.of_own (es := head ++ vs) (by rw [List.length_append, ensV_append]; exact hown5); have hb5 := hq5.alloc hq5.size (.cells #[.int .i64 0, .int .i64 0, .slice a5 (head.length + vs.length) c5] 26); have gX := blk_keep hb5 gX0; have hlx := hl3'.below hb5; have gY := blk_new w5 (.cells #[.int .i64 0, .int .i64 0, .slice a5 (head.length + vs.length) c5] 26); have hly := hl5.below (below1 w5 (.cells #[.int .i64 0, .int .i64 0, .slice a5 (head.length + vs.length) c5] 26)); have hw0 := hw5.alloc hw5.size (.cells #[.int .i64 0, .int .i64 0, .slice a5 (head.length + vs.length) c5] 26); obtain ⟨xc0, xc1, xc2, _, _, _, xlt⟩ := box3 gX; obtain ⟨yc0, yc1, yc2, _, _, _, ylt⟩ := box3 gY)
    | (go_at_call 28; (with_reducible refine (HMx.out _ _ _ hlx).mono ?_); rintro e w6 ⟨rfl, hb6⟩; replace hw0 := hw0.trans (hb6.mono hw0.size); replace gX := blk_keep hb6 gX; replace gY := blk_keep hb6 gY; replace hlx := hlx.below hb6; replace hly := hly.below hb6; obtain ⟨xc0, xc1, xc2, _, _, _, xlt⟩ := box3 gX; obtain ⟨yc0, yc1, yc2, _, _, _, ylt⟩ := box3 gY)
    | (go_at_call 28; (with_reducible refine (HMy.out _ _ _ hly).mono ?_); rintro e w7 ⟨rfl, hb7⟩; replace hw0 := hw0.trans (hb7.mono hw0.size); replace gX := blk_keep hb7 gX; replace gY := blk_keep hb7 gY; replace hlx := hlx.below hb7; replace hly := hly.below hb7; obtain ⟨xc0, xc1, xc2, _, _, _, xlt⟩ := box3 gX; obtain ⟨yc0, yc1, yc2, _, _, _, ylt⟩ := box3 gY)
    | (go_at_call 30; refine (HTe.out _ _ _ hlx).mono ?_; rintro e w8 ⟨rfl, hb8⟩; replace hw0 := hw0.trans (hb8.mono hw0.size); replace gX := blk_keep hb8 gX; replace gY := blk_keep hb8 gY; replace hlx := hlx.below hb8; replace hly := hly.below hb8; obtain ⟨xc0, xc1, xc2, _, _, _, xlt⟩ := box3 gX; obtain ⟨yc0, yc1, yc2, _, _, _, ylt⟩ := box3 gY)
    | (go_at_call 25; (with_reducible refine (HBx.out _ _ _ hlx hw0).mono ?_); rintro e w9 ⟨a9, c9, rfl, hl9, _, hb9⟩; replace hw0 := hw0.trans (hb9.mono hw0.size); replace gX := blk_keep hb9 gX; replace gY := blk_keep hb9 gY; replace hlx := hlx.below hb9; replace hly := hly.below hb9; obtain ⟨xc0, xc1, xc2, _, _, _, xlt⟩ := box3 gX; obtain ⟨yc0, yc1, yc2, _, _, _, ylt⟩ := box3 gY; have gP := blk_new w9 (.cells #[.int .i64 0, .int .i64 0, .slice a9 M.length c9] 26); have hlp := hl9.below (below1 w9 (.cells #[.int .i64 0, .int .i64 0, .slice a9 M.length c9] 26)); replace hw0 := hw0.alloc hw0.size (.cells #[.int .i64 0, .int .i64 0, .slice a9 M.length c9] 26); replace gX := blk_alloc gX (.cells #[.int .i64 0, .int .i64 0, .slice a9 M.length c9] 26); replace gY := blk_alloc gY (.cells #[.int .i64 0, .int .i64 0, .slice a9 M.length c9] 26); replace hlx := hlx.below (below1 w9 (.cells #[.int .i64 0, .int .i64 0, .slice a9 M.length c9] 26)); replace hly := hly.below (below1 w9 (.cells #[.int .i64 0, .int .i64 0, .slice a9 M.length c9] 26)))
    | (go_at_call 25; (with_reducible refine (HBy.out _ _ _ hly hw0).mono ?_); rintro e w10 ⟨a10, c10, rfl, hl10, _, hb10⟩; replace gP := blk_keep hb10 gP; replace hlp := hlp.below hb10; replace hw0 := hw0.trans (hb10.mono hw0.size); replace gX := blk_keep hb10 gX; replace gY := blk_keep hb10 gY; replace hlx := hlx.below hb10; replace hly := hly.below hb10; obtain ⟨xc0, xc1, xc2, _, _, _, xlt⟩ := box3 gX; obtain ⟨yc0, yc1, yc2, _, _, _, ylt⟩ := box3 gY; have gQ := blk_new w10 (.cells #[.int .i64 0, .int .i64 0, .slice a10 N.length c10] 26); have hlq := hl10.below (below1 w10 (.cells #[.int .i64 0, .int .i64 0, .slice a10 N.length c10] 26)); replace hw0 := hw0.alloc hw0.size (.cells #[.int .i64 0, .int .i64 0, .slice a10 N.length c10] 26); replace gP := blk_alloc gP (.cells #[.int .i64 0, .int .i64 0, .slice a10 N.length c10] 26); replace hlp := hlp.below (below1 w10 (.cells #[.int .i64 0, .int .i64 0, .slice a10 N.length c10] 26)); obtain ⟨pc0, pc1, pc2, _, _, _, plt⟩ := box3 gP; obtain ⟨qc0, qc1, qc2, _, _, _, qlt⟩ := box3 gQ))
  clear xc0 xc1 xc2 xlt yc0 yc1 yc2 ylt gX gY hlx hly hl9 hl10
  go_loopw [19] (fun c wr => ∃ j : Nat, j ≤ more.length ∧ c = .int .i64 ((head.length : Int) + 1 + (j : Int)) ∧ LogIn wr a9 c9 M ∧ LogIn wr a10 c10 N ∧ wr.heap[w9.heap.size]? = some (.cells #[.int .i64 0, .int .i64 0, .slice a9 M.length c9] 26) ∧ wr.heap[w10.heap.size]? = some (.cells #[.int .i64 0, .int .i64 0, .slice a10 N.length c10] 26) ∧ Below w.heap.size w wr) (fun c _ => (head.length + more.length + 1) - (intOf c).toNat)
  case atStart => exact ⟨0, by omega, by simp, hlp, hlq, gP, gQ, hw0⟩
  case round =>
    obtain ⟨j, hj, rfl, hlp, hlq, gP, gQ, hw0⟩ := hrel
    obtain ⟨pc0, pc1, pc2, _, _, _, plt⟩ := box3 gP
    obtain ⟨qc0, qc1, qc2, _, _, _, qlt⟩ := box3 gQ
    by_cases hlt : j < more.length
    · obtain ⟨mb, moff, rfl, hmlt, m0, mx⟩ := entry_cells (HRm.out.row.below hw0) hlt
      clear mx
      have HT1 : Hid (∀ W a c, LogIn W a c M → Calls Try.prog 30 #[logV 0 0 a M.length c, .int .i64 ((head.length : Int) + 1 + (j : Int))] W fun e w' => e = .returned (.tuple #[.int .i64 (more[j]).1, .bool true]) ∧ Below W.heap.size W w') := fun W a c h => HTp.out W a c j hlt h
      have HT2 : Hid (∀ W a c, LogIn W a c N → Calls Try.prog 30 #[logV 0 0 a N.length c, .int .i64 ((head.length : Int) + 1 + (j : Int))] W fun e w' => e = .returned (.tuple #[.int .i64 (more[j]).1, .bool true]) ∧ Below W.heap.size W w') := fun W a c h => HTq.out W a c j hlt h
      generalize (more[j]'hlt).1 = X at m0 HT1 HT2
      have hj0 : (0 : Int) ≤ (j : Int) := by omega
      have hj1 : (j : Int) < (more.length : Int) := by omega
      have hj3 : (head.length : Int) + 1 + (j : Int) ≤ (head.length : Int) + (more.length : Int) := by omega
      have hji : wrap64 (wrap64 ((head.length : Int) + 1 + (j : Int) - (head.length : Int)) - 1) = (j : Int) := by unfold wrap64; omega
      have hjj : (head.length : Int) + 1 + (j : Int) - (head.length : Int) - 1 = (j : Int) := by omega
      go_wp2_with (first
        | (go_at_call 30; (with_reducible refine (HT1.out _ _ _ hlp).mono ?_); rintro e w11 ⟨rfl, hb11⟩; have hlq11 := hlq.below hb11; have gQ11 := blk_keep hb11 gQ; obtain ⟨qc0, qc1, qc2, _, _, _, qlt⟩ := box3 gQ11; have n0 := ((bcell hb11).1 _ _ hmlt).trans m0; have nlt := Nat.lt_of_lt_of_le hmlt hb11.size)
        | (go_at_call 30; (with_reducible refine (HT2.out _ _ _ hlq11).mono ?_); rintro e w12 ⟨rfl, hb12⟩; have o0 := ((bcell hb12).1 _ _ nlt).trans n0; have olt := Nat.lt_of_lt_of_le nlt hb12.size))
      go_roundw
      case rel => exact ⟨j + 1, by omega, by go_num, (hlp.below hb11).below hb12, hlq11.below hb12, blk_keep hb12 (blk_keep hb11 gP), blk_keep hb12 gQ11, (hw0.trans (hb11.mono hw0.size)).trans (hb12.mono (hw0.trans (hb11.mono hw0.size)).size)⟩
      case measure => simp [intOf]; omega
    · have hle : (more.length : Int) < (j : Int) + 1 := by omega
      have hlpd : LogIn wr.drew a9 c9 M := ⟨hlp.row, hlp.cap, hlp.none_, hlp.max⟩
      go_wp2
      go_region_held3 (fun W => W.cell? ⟨w9.heap.size, 0, none⟩ = some (.int .i64 0) ∧ W.cell? ⟨w9.heap.size, 1, none⟩ = some (.int .i64 0) ∧ W.cell? ⟨w9.heap.size, 2, none⟩ = some (.slice a9 M.length c9) ∧ W.cell? ⟨w10.heap.size, 0, none⟩ = some (.int .i64 0) ∧ W.cell? ⟨w10.heap.size, 1, none⟩ = some (.int .i64 0) ∧ W.cell? ⟨w10.heap.size, 2, none⟩ = some (.slice a10 N.length c10)) (first | exact ⟨rpc0, rpc1, rpc2, rqc0, rqc1, rqc2⟩ | exact ⟨zpc0, zpc1, zpc2, zqc0, zqc1, zqc2⟩ | exact ⟨ypc0, ypc1, ypc2, yqc0, yqc1, yqc2⟩ | exact ⟨pc0, pc1, pc2, qc0, qc1, qc2⟩) (first
        | (go_at_call 31; refine (HSm.out _ _ _ _ _ (RowAt.of_own (own_below hown11 hb12)) (RowAt.of_own hown12)).mono ?_; rintro e w13 ⟨rfl, hb13⟩; have hb13' := hb12'.trans (hb13.mono hb12'.size); have rpc0 := ((bcell hb13').1 _ _ plt).trans pc0; have rpc1 := ((bcell hb13').1 _ _ plt).trans pc1; have rpc2 := ((bcell hb13').1 _ _ plt).trans pc2; have rqc0 := ((bcell hb13').1 _ _ qlt).trans qc0; have rqc1 := ((bcell hb13').1 _ _ qlt).trans qc1; have rqc2 := ((bcell hb13').1 _ _ qlt).trans qc2)
        | (go_at_call 32; (with_reducible refine (HFq.out _ _ _ (hlq.below hb11')).mono ?_); rintro e w12 ⟨a12, c12, rfl, hown12, hb12⟩; have hb12' := hb11'.trans (hb12.mono hb11'.size); have zpc0 := ((bcell hb12').1 _ _ plt).trans pc0; have zpc1 := ((bcell hb12').1 _ _ plt).trans pc1; have zpc2 := ((bcell hb12').1 _ _ plt).trans pc2; have zqc0 := ((bcell hb12').1 _ _ qlt).trans qc0; have zqc1 := ((bcell hb12').1 _ _ qlt).trans qc1; have zqc2 := ((bcell hb12').1 _ _ qlt).trans qc2)
        | (go_at_call 32; (with_reducible refine (HFp.out _ _ _ hlpd).mono ?_); rintro e w11 ⟨a11, c11, rfl, hown11, hb11⟩; have hb11' : Below wr.heap.size wr w11 := (below0 wr).drew.trans (hb11.mono (below0 wr).drew.size); have ypc0 := ((bcell hb11').1 _ _ plt).trans pc0; have ypc1 := ((bcell hb11').1 _ _ plt).trans pc1; have ypc2 := ((bcell hb11').1 _ _ plt).trans pc2; have yqc0 := ((bcell hb11').1 _ _ qlt).trans qc0; have yqc1 := ((bcell hb11').1 _ _ qlt).trans qc1; have yqc2 := ((bcell hb11').1 _ _ qlt).trans qc2))
      go_wp2
      go_ret
      exact ⟨rfl, hw0.trans (hb13'.mono hw0.size)⟩
end Go.Proofs.Ytifbcdjabdfeeaa
