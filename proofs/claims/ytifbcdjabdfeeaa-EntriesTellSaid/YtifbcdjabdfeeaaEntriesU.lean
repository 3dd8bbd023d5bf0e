/-
  Layer 4's laws: EntriesTell.
-/
import Derived.Test.YtifbcdjabdfeeaaEntriesR
import Derived.Test.YtifbcdjabdfeeaaEntriesT
namespace Go.Proofs.Ytifbcdjabdfeeaa
open Go.RowKit
set_option linter.unusedVariables false
set_option maxRecDepth 100000 in
set_option maxHeartbeats 3200000 in
theorem refFrom_top (b t : Int) (a : Option Addr) (cap : Nat) (es : List En) (i most : Int) (w : World) (hi : 9223372036854775806 < i) (hwi : i ≤ 9223372036854775807) (hl : LogIn w a cap es) :
    Calls Try.prog 35 #[logV b t a es.length cap, .int .i64 i, .int .i64 most] w (RetRow 55 7 (fromF b t es i most).length (ensV (fromF b t es i most)) w) := by
  have HM : Hid (∀ W, Below w.heap.size w W → Calls Try.prog 47 #[logV b t a es.length cap] W fun e w' => e = .returned (logV (fairL b t es).1 (fairL b t es).2.1 (fairA b t es a cap).1 (fairL b t es).2.2.length (fairA b t es a cap).2) ∧ Below W.heap.size W w') := fun W h => refFair_any b t a cap es W (hl.below h)
  have hmay := fairL_may b t es
  unfold fromF
  clear hl
  generalize fairA b t es a cap = A at HM
  generalize fairL b t es = l at HM hmay
  obtain ⟨B, T, l⟩ := l
  obtain ⟨a', cap'⟩ := A
  simp only at HM hmay ⊢
  obtain ⟨h1, h2, _, _, _, h6, hx⟩ := mayL_true hmay
  have h6' : (l.length : Int) ≤ 64 := by omega
  clear hmay hx
  rw [fromL_none (by omega : i ≤ B ∨ B + (l.length : Int) < i ∨ most ≤ 0)]
  have hwk : wrap64 (i - B) = i - B := by unfold wrap64; omega
  have hd2 : decide (i - B ≤ (l.length : Int)) = false := decide_eq_false (by omega)
  have c2' : (l.length : Int) < i - B := by omega
  have c1 : B < i := by omega
  clear hi hwi h1 h2 h6 h6'
  go_enter Try.func35, Try.ntmps35
  go_wp2_with (go_at_call 47; refine (HM.out _ (below1 _ _)).mono ?_; rintro e w1 ⟨rfl, hb1⟩; have hw1 := (alloc_below hb1))
  go_loopw [8, 9] (fun o c wr => c = .int .i64 i ∧ o = .slice none 0 0 ∧ wr.heap[w1.heap.size]? = some (.cells #[.int .i64 B, .int .i64 T, .slice a' l.length cap'] 26) ∧ Below w.heap.size w wr) (fun _ c _ => 0)
  case atStart => exact ⟨rfl, rfl, blk_new _ _, hw1.alloc hw1.size _⟩
  case round =>
    obtain ⟨rfl, rfl, g0, hw0⟩ := hrel
    obtain ⟨hc0, hc1, hc2, _, _, _, hlt0⟩ := box3 g0
    go_wp2
    go_ret
    exact ⟨none, 0, rfl, World.ownsRow_nil _ _ _ _, hw0⟩
theorem refFrom_all (b t : Int) (a : Option Addr) (cap : Nat) (es : List En) (i most : Int) (w : World) (hwi : (Lit.int .i64 i).wf = true) (hl : LogIn w a cap es) :
    Calls Try.prog 35 #[logV b t a es.length cap, .int .i64 i, .int .i64 most] w (RetRow 55 7 (fromF b t es i most).length (ensV (fromF b t es i most)) w) := by
  by_cases h : i ≤ 9223372036854775806
  · exact refFrom_any b t a cap es i most w h hl
  · have hi : -9223372036854775808 ≤ i ∧ i ≤ 9223372036854775807 := by simpa [Lit.wf, IntKind.min, IntKind.max, IntKind.bits, IntKind.signed] using hwi
    exact refFrom_top b t a cap es i most w (by omega) hi.2 hl
set_option maxRecDepth 100000 in
set_option maxHeartbeats 6400000 in
theorem entriesTell_walk (b u : Int) (a : Option Addr) (cap : Nat) (es : List En) (i most T : Int) (hwi : (Lit.int .i64 i).wf = true) (w : World) (hl : LogIn w a cap es) :
    Calls Try.prog 14 #[logV b u a es.length cap, .int .i64 i, .int .i64 most, .int .i64 T] w fun e w' => e = .returned (.bool true) ∧ Below w.heap.size w w' := by
  have HF : Hid (∀ W, Calls Try.prog 16 #[logV b u a es.length cap] W fun e w' => e = .returned (.bool (decide ((es.length : Int) ≤ 100))) ∧ Below W.heap.size W w') := fun W => few_any b u a es.length cap W
  by_cases h100 : (es.length : Int) ≤ 100
  rotate_left 1
  · rw [decide_eq_false h100] at HF
    clear h100 hl
    go_enter Try.func14, Try.ntmps14
    go_wp2_with (first
      | (go_at_call 24; refine (entriesAwake_any _).mono ?_; rintro e w1 ⟨rfl, hb1⟩; have hw0 := alloc_below hb1; have g0 := blk_keep hb1 (blk_new w _); obtain ⟨hc0, hc1, hc2, _, _, _, hlt0⟩ := box3 g0)
      | (go_at_call 16; refine (HF.out _).mono ?_; rintro e w2 ⟨rfl, hb2⟩; replace hw0 := hw0.trans (hb2.mono hw0.size); replace g0 := blk_keep hb2 g0; obtain ⟨hc0, hc1, hc2, _, _, _, hlt0⟩ := box3 g0))
    go_ret
    exact ⟨rfl, hw0⟩
  rw [decide_eq_true h100] at HF
  have HLa : Hid (∀ W, Below w.heap.size w W → Calls Try.prog 18 #[logV b u a es.length cap] W fun e w' => e = .returned (.tuple #[.int .i64 (lastF b u es).1, .int .i64 (lastF b u es).2]) ∧ Below W.heap.size W w') := fun W h => last_any b u a cap es W (hl.below h)
  have HLr : Hid (∀ W, Below w.heap.size w W → Calls Try.prog 33 #[logV b u a es.length cap] W fun e w' => e = .returned (.tuple #[.int .i64 (lastF b u es).1, .int .i64 (lastF b u es).2]) ∧ Below W.heap.size W w') := fun W h => refLast_any b u a cap es W (hl.below h)
  have HTe : Hid (∀ W, Below w.heap.size w W → Calls Try.prog 30 #[logV b u a es.length cap, .int .i64 i] W fun e w' => e = .returned (.tuple #[.int .i64 (termF b u es i).1, .bool (termF b u es i).2]) ∧ Below W.heap.size W w') := fun W h => term_any b u a cap es i W (hl.below h)
  have HTr : Hid (∀ W, Below w.heap.size w W → Calls Try.prog 34 #[logV b u a es.length cap, .int .i64 i] W fun e w' => e = .returned (.tuple #[.int .i64 (termF b u es i).1, .bool (termF b u es i).2]) ∧ Below W.heap.size W w') := fun W h => refTerm_any b u a cap es i hwi W (hl.below h)
  have HFr : Hid (∀ W, Below w.heap.size w W → Calls Try.prog 32 #[logV b u a es.length cap, .int .i64 i, .int .i64 most] W (RetRow 55 7 (fromF b u es i most).length (ensV (fromF b u es i most)) W)) := fun W h => from_any b u a cap es i most W (hl.below h)
  have HFf : Hid (∀ W, Below w.heap.size w W → Calls Try.prog 35 #[logV b u a es.length cap, .int .i64 i, .int .i64 most] W (RetRow 55 7 (fromF b u es i most).length (ensV (fromF b u es i most)) W)) := fun W h => refFrom_all b u a cap es i most W hwi (hl.below h)
  have hfl : (fromF b u es i most).length ≤ 100 := by
    unfold fromF
    have h1 : (fairL b u es).2.2.length ≤ es.length := by
      unfold fairL
      split
      · exact Nat.le_refl _
      · exact Nat.zero_le _
    generalize fairL b u es = F at h1
    unfold fromL
    split
    · simp
    · rw [List.length_take, List.length_drop]; omega
  have HSm : Hid (∀ W A c A' c', RowAt W A (ensV (fromF b u es i most)) → RowAt W A' (ensV (fromF b u es i most)) → Calls Try.prog 31 #[.slice A (fromF b u es i most).length c, .slice A' (fromF b u es i most).length c'] W fun e w' => e = .returned (.bool true) ∧ Below W.heap.size W w') := fun W A c A' c' h h' => by
    have := same_any A c (fromF b u es i most) A' c' (fromF b u es i most) W h h' (by unfold maxLen; omega)
    rw [decide_eq_true rfl] at this
    exact this
  have HPa : Hid (∀ W, Below w.heap.size w W → Calls Try.prog 36 #[logV b u a es.length cap, .int .i64 i] W (RetLog (packF b u es i) W)) := fun W h => pack_any b u a cap es i W (hl.below h)
  have HPr : Hid (∀ W, Below w.heap.size w W → Calls Try.prog 37 #[logV b u a es.length cap, .int .i64 i] W (RetLog (packF b u es i) W)) := fun W h => refPack_any b u a cap es i hwi W (hl.below h)
  have HLg : Hid (∀ W a c a' c', LogIn W a c (packF b u es i).2.2.1 → LogIn W a' c' (packF b u es i).2.2.1 → Calls Try.prog 27 #[logV (packF b u es i).1 (packF b u es i).2.1 a (packF b u es i).2.2.1.length c, logV (packF b u es i).1 (packF b u es i).2.1 a' (packF b u es i).2.2.1.length c'] W fun e w' => e = .returned (.bool true) ∧ Below W.heap.size W w') := fun W a c a' c' h h' => by
    have := logs_any (packF b u es i).1 (packF b u es i).2.1 a c (packF b u es i).2.2.1 (packF b u es i).1 (packF b u es i).2.1 a' c' (packF b u es i).2.2.1 W h h'
    rwa [show (decide ((packF b u es i).2.2.1 = (packF b u es i).2.2.1) && (packF b u es i).1 == (packF b u es i).1 && (packF b u es i).2.1 == (packF b u es i).2.1) = true by simp] at this
  have HMy : Hid (∀ W, Below w.heap.size w W → Calls Try.prog 28 #[logV b u a es.length cap] W fun e w' => e = .returned (.bool (mayL b u es)) ∧ Below W.heap.size W w') := fun W h => may_any b u a cap es W (hl.below h)
  have HMr : Hid (∀ W, Below w.heap.size w W → Calls Try.prog 38 #[logV b u a es.length cap] W fun e w' => e = .returned (.bool (mayL b u es)) ∧ Below W.heap.size W w') := fun W h => refMay_any b u a cap es W (hl.below h)
  have HNw : Hid (∀ W, Calls Try.prog 29 #[.int .i64 i, .int .i64 T, .int .i64 (lastF b u es).1, .int .i64 (lastF b u es).2] W fun e w' => e = .returned (.bool (newerB i T (lastF b u es).1 (lastF b u es).2)) ∧ W = w') := fun W => (newer_any _ _ _ _ W).mono fun _ _ ⟨h1, h2⟩ => ⟨h1, h2.symm⟩
  have HNr : Hid (∀ W, Calls Try.prog 39 #[.int .i64 i, .int .i64 T, .int .i64 (lastF b u es).1, .int .i64 (lastF b u es).2] W fun e w' => e = .returned (.bool (newerB i T (lastF b u es).1 (lastF b u es).2)) ∧ W = w') := fun W => (refNewer_any _ _ _ _ W).mono fun _ _ ⟨h1, h2⟩ => ⟨h1, h2.symm⟩
  generalize lastF b u es = L at *
  generalize termF b u es i = X at *
  generalize fromF b u es i most = P at *
  generalize packF b u es i = K at *
  generalize mayL b u es = my at *
  obtain ⟨L1, L2⟩ := L
  obtain ⟨X1, X2⟩ := X
  obtain ⟨K1, K2, K3, K4⟩ := K
  simp only at HLa HLr HTe HTr HPa HPr HLg HNw HNr
  generalize newerB i T L1 L2 = nw at *
  clear hl h100 hwi hfl
  go_enter Try.func14, Try.ntmps14
  go_wp2_with (first
    | (go_at_call 24; refine (entriesAwake_any _).mono ?_; rintro e w1 ⟨rfl, hb1⟩; have hw0 := alloc_below hb1; have g0 := blk_keep hb1 (blk_new w _); obtain ⟨hc0, hc1, hc2, _, _, _, hlt0⟩ := box3 g0)
    | (go_at_call 16; refine (HF.out _).mono ?_; rintro e w2 ⟨rfl, hb2⟩; replace hw0 := hw0.trans (hb2.mono hw0.size); replace g0 := blk_keep hb2 g0; obtain ⟨hc0, hc1, hc2, _, _, _, hlt0⟩ := box3 g0)
    | (go_at_call 18; refine (HLa.out _ hw0).mono ?_; rintro e w2 ⟨rfl, hb2⟩; replace hw0 := hw0.trans (hb2.mono hw0.size); replace g0 := blk_keep hb2 g0; obtain ⟨hc0, hc1, hc2, _, _, _, hlt0⟩ := box3 g0)
    | (go_at_call 33; refine (HLr.out _ hw0).mono ?_; rintro e w2 ⟨rfl, hb2⟩; replace hw0 := hw0.trans (hb2.mono hw0.size); replace g0 := blk_keep hb2 g0; obtain ⟨hc0, hc1, hc2, _, _, _, hlt0⟩ := box3 g0)
    | (go_at_call 30; refine (HTe.out _ hw0).mono ?_; rintro e w2 ⟨rfl, hb2⟩; replace hw0 := hw0.trans (hb2.mono hw0.size); replace g0 := blk_keep hb2 g0; obtain ⟨hc0, hc1, hc2, _, _, _, hlt0⟩ := box3 g0)
    | (go_at_call 34; refine (HTr.out _ hw0).mono ?_; rintro e w2 ⟨rfl, hb2⟩; replace hw0 := hw0.trans (hb2.mono hw0.size); replace g0 := blk_keep hb2 g0; obtain ⟨hc0, hc1, hc2, _, _, _, hlt0⟩ := box3 g0))
  go_region_held3 (fun W => W.cell? ⟨w.heap.size, 0, none⟩ = some (.int .i64 b) ∧ W.cell? ⟨w.heap.size, 1, none⟩ = some (.int .i64 u) ∧ W.cell? ⟨w.heap.size, 2, none⟩ = some (.slice a es.length cap)) (first | exact ⟨qhc0, qhc1, qhc2⟩ | exact ⟨zhc0, zhc1, zhc2⟩ | exact ⟨yhc0, yhc1, yhc2⟩ | exact ⟨hc0, hc1, hc2⟩) (first
    | (go_at_call 31; refine (HSm.out _ _ _ _ _ (RowAt.of_own (own_below hown7 hb8)) (RowAt.of_own hown8)).mono ?_; rintro e w9 ⟨rfl, hb9⟩; have hb9' := hb8'.trans (hb9.mono hb8'.size); have qhc0 := ((bcell hb9').1 _ _ hlt0).trans hc0; have qhc1 := ((bcell hb9').1 _ _ hlt0).trans hc1; have qhc2 := ((bcell hb9').1 _ _ hlt0).trans hc2)
    | (go_at_call 35; refine (HFf.out _ (hw0.trans (hb7'.mono hw0.size))).mono ?_; rintro e w8 ⟨a8, c8, rfl, hown8, hb8⟩; have hb8' := hb7'.trans (hb8.mono hb7'.size); have zhc0 := ((bcell hb8').1 _ _ hlt0).trans hc0; have zhc1 := ((bcell hb8').1 _ _ hlt0).trans hc1; have zhc2 := ((bcell hb8').1 _ _ hlt0).trans hc2)
    | (go_at_call 32; refine (HFr.out _ hw0.drew).mono ?_; rintro e w7 ⟨a7, c7, rfl, hown7, hb7⟩; have hb7' : Below w2.heap.size w2 w7 := (below0 w2).drew.trans (hb7.mono (below0 w2).drew.size); have yhc0 := ((bcell hb7').1 _ _ hlt0).trans hc0; have yhc1 := ((bcell hb7').1 _ _ hlt0).trans hc1; have yhc2 := ((bcell hb7').1 _ _ hlt0).trans hc2))
  replace hw0 := hw0.trans (hb9'.mono hw0.size)
  replace g0 := blk_keep hb9' g0
  clear hc0 hc1 hc2 yhc0 yhc1 yhc2 zhc0 zhc1 zhc2 qhc0 qhc1 qhc2 hb9' hb8' hb7' hb7 hb8 hb9 hb2 hlt0 hown7 hown8
  obtain ⟨hc0, hc1, hc2, _, _, _, hlt0⟩ := box3 g0
  go_wp2_with (first
    | (go_at_call 36; refine (HPa.out _ hw0).mono ?_; rintro e w3 ⟨a3, c3, rfl, hl3, _, hb3⟩; replace hw0 := hw0.trans (hb3.mono hw0.size); replace g0 := blk_keep hb3 g0; obtain ⟨hc0, hc1, hc2, _, _, _, hlt0⟩ := box3 g0; have gX := blk_new w3 (.cells #[.int .i64 K1, .int .i64 K2, .slice a3 K3.length c3] 26); replace g0 := blk_alloc g0 (.cells #[.int .i64 K1, .int .i64 K2, .slice a3 K3.length c3] 26); replace hw0 := hw0.alloc hw0.size (.cells #[.int .i64 K1, .int .i64 K2, .slice a3 K3.length c3] 26); replace hl3 := hl3.below (below1 w3 (.cells #[.int .i64 K1, .int .i64 K2, .slice a3 K3.length c3] 26)))
    | (go_at_call 37; refine (HPr.out _ hw0).mono ?_; rintro e w4 ⟨a4, c4, rfl, hl4, _, hb4⟩; replace hw0 := hw0.trans (hb4.mono hw0.size); replace g0 := blk_keep hb4 g0; obtain ⟨hc0, hc1, hc2, _, _, _, hlt0⟩ := box3 g0; replace gX := blk_keep hb4 gX; obtain ⟨xc0, xc1, xc2, _, _, _, xlt⟩ := box3 gX; replace hl3 := hl3.below hb4; replace g0 := blk_alloc g0 (.cells #[.int .i64 K1, .int .i64 K2, .slice a4 K3.length c4] 26); replace hw0 := hw0.alloc hw0.size (.cells #[.int .i64 K1, .int .i64 K2, .slice a4 K3.length c4] 26); replace hl3 := hl3.below (below1 w4 (.cells #[.int .i64 K1, .int .i64 K2, .slice a4 K3.length c4] 26)); have hl4' := hl4.below (below1 w4 (.cells #[.int .i64 K1, .int .i64 K2, .slice a4 K3.length c4] 26)))
    | (go_at_call 27; refine (HLg.out _ _ _ _ _ hl3 hl4').mono ?_; rintro e w5 ⟨rfl, hb5⟩; replace hw0 := hw0.trans (hb5.mono hw0.size); replace g0 := blk_keep hb5 g0; obtain ⟨hc0, hc1, hc2, _, _, _, hlt0⟩ := box3 g0))
  clear hl3 hl4 hl4' gX xc0 xc1 xc2 xlt hb3 hb4 hb5
  go_region_held3 (fun W => W.cell? ⟨w.heap.size, 0, none⟩ = some (.int .i64 b) ∧ W.cell? ⟨w.heap.size, 1, none⟩ = some (.int .i64 u) ∧ W.cell? ⟨w.heap.size, 2, none⟩ = some (.slice a es.length cap)) (first | exact ⟨zhc0, zhc1, zhc2⟩ | exact ⟨yhc0, yhc1, yhc2⟩ | exact ⟨hc0, hc1, hc2⟩) (first
    | (go_at_call 29; refine (HNw.out _).mono ?_; rintro e w' ⟨rfl, rfl⟩)
    | (go_at_call 39; refine (HNr.out _).mono ?_; rintro e w' ⟨rfl, rfl⟩)
    | (go_at_call 38; refine (HMr.out _ (hw0.trans (hb7'.mono hw0.size))).mono ?_; rintro e w8 ⟨rfl, hb8⟩; have hb8' := hb7'.trans (hb8.mono hb7'.size); have zhc0 := ((bcell hb8').1 _ _ hlt0).trans hc0; have zhc1 := ((bcell hb8').1 _ _ hlt0).trans hc1; have zhc2 := ((bcell hb8').1 _ _ hlt0).trans hc2)
    | (go_at_call 28; refine (HMy.out _ hw0.drew).mono ?_; rintro e w7 ⟨rfl, hb7⟩; have hb7' : Below w5.heap.size w5 w7 := (below0 w5).drew.trans (hb7.mono (below0 w5).drew.size); have yhc0 := ((bcell hb7').1 _ _ hlt0).trans hc0; have yhc1 := ((bcell hb7').1 _ _ hlt0).trans hc1; have yhc2 := ((bcell hb7').1 _ _ hlt0).trans hc2))
  go_wp2
  go_ret
  exact ⟨rfl, hw0.trans (hb8'.mono hw0.size)⟩
end Go.Proofs.Ytifbcdjabdfeeaa
