/-
  Layer 8's laws: VaultWhole.
-/
import Derived.Test.YtnbljcbfnplbaaaVaultP
import Derived.Test.YtnbljcbfnplbaaaBE
import Derived.Test.YtnbljcbfnplbaaaBA
namespace Go.Proofs.Ytnbljcbfnplbaaa
open Go.RowKit
set_option linter.unusedVariables false
set_option maxRecDepth 100000 in
set_option maxHeartbeats 6400000 in
theorem vaultWhole_walk (t v bb bt : Int) (a : Option Addr) (cap : Nat) (l : List En) (cut : Int) (w : World) (hl : LogIn w a cap l) (hlw : ∀ e ∈ l, EnWf e) (hcw : (Lit.int .i64 cut).wf = true) :
    Calls Try.prog 8 #[ballotV t v, logV bb bt a l.length cap, .int .i64 cut] w fun e w' => e = .returned (.bool true) ∧ Below w.heap.size w w' := by
  by_cases h1 : (70 : Int) < (l.length : Int)
  · clear hl hlw
    go_enter Try.func8, Try.ntmps8
    go_wp2_with (first
      | (go_at_call 9; refine (vaultAwake_any _).mono ?_; rintro e w2 ⟨rfl, hb2⟩; have gb := alloc2_fst w (.cells #[.int .i64 t, .int .i64 v] 23) (.cells #[.int .i64 bb, .int .i64 bt, .slice a l.length cap] 26); have gl := alloc2_snd w (.cells #[.int .i64 t, .int .i64 v] 23) (.cells #[.int .i64 bb, .int .i64 bt, .slice a l.length cap] 26); have hw0 := below2 w (.cells #[.int .i64 t, .int .i64 v] 23) (.cells #[.int .i64 bb, .int .i64 bt, .slice a l.length cap] 26); have hw2 := hw0.trans (hb2.mono hw0.size); have hz2 : w.heap.size + 2 ≤ w2.heap.size := (by have := hb2.size; simp at this; omega); replace gb := blk_keep hb2 gb; replace gl := blk_keep hb2 gl; obtain ⟨bc0, bc1, bcf0, bcf1, bclt⟩ := box2 gb; obtain ⟨lc0, lc1, lc2, lcf0, lcf1, lcf2, lclt⟩ := box3 gl)
      | (go_at_call 10; refine (newB_any _ _ rfl).mono ?_; rintro e w3 ⟨rfl, hv0, hs3, hb3⟩; have hw3 := hw2.trans (hb3.mono hw2.size); replace gb := blk_keep hb3 gb; replace gl := blk_keep hb3 gl; obtain ⟨bc0, bc1, bcf0, bcf1, bclt⟩ := box2 gb; obtain ⟨lc0, lc1, lc2, lcf0, lcf1, lcf2, lclt⟩ := box3 gl; clear hb3; generalize hV : w2.heap.size = V at *; have hv := hv0 (V + 1); clear hv0; have hz3 : V + 1 ≤ w3.heap.size := Nat.le_of_eq hs3.symm))
    go_ret
    exact ⟨rfl, hw3⟩
  have HS1 : Hid (∀ W V base, Below w.heap.size w W → V < base → base ≤ W.heap.size → VtAt W V base vt0 → Calls Try.prog 11 #[.pointer (some ⟨V, 0, none⟩), ballotV t v, logV bb bt a l.length cap] W fun e w' => e = .returned (.int .i64 (saveE vt0 t v bb bt l)) ∧ VtAt w' V base (saveV vt0 t v bb bt l) ∧ Only V W w') := fun W V base h0 h1 h2 h3 => save_any V base vt0 t v bb bt a cap l W h3 h1 h2 (hl.below h0) hlw vt0_ok (Nat.zero_le _)
  by_cases hE : saveE vt0 t v bb bt l = 0
  rotate_left 1
  · have hE' : (saveE vt0 t v bb bt l != 0) = true := by simpa using hE
    rw [vt0_save hE] at HS1
    have HBY : Hid (∀ W V base, VtAt W V base vt0 → V < base → Calls Try.prog 21 #[.pointer (some ⟨V, 0, none⟩)] W (RetRow 5 1 0 [] W)) := fun W V base h h' => bytes_any V base vt0 W h h' (Nat.zero_le _)
    clear hl hlw hE
    generalize saveE vt0 t v bb bt l = E1 at HS1 hE'
    go_enter Try.func8, Try.ntmps8
    go_wp2_with (first
      | (go_at_call 9; refine (vaultAwake_any _).mono ?_; rintro e w2 ⟨rfl, hb2⟩; have gb := alloc2_fst w (.cells #[.int .i64 t, .int .i64 v] 23) (.cells #[.int .i64 bb, .int .i64 bt, .slice a l.length cap] 26); have gl := alloc2_snd w (.cells #[.int .i64 t, .int .i64 v] 23) (.cells #[.int .i64 bb, .int .i64 bt, .slice a l.length cap] 26); have hw0 := below2 w (.cells #[.int .i64 t, .int .i64 v] 23) (.cells #[.int .i64 bb, .int .i64 bt, .slice a l.length cap] 26); have hw2 := hw0.trans (hb2.mono hw0.size); have hz2 : w.heap.size + 2 ≤ w2.heap.size := (by have := hb2.size; simp at this; omega); replace gb := blk_keep hb2 gb; replace gl := blk_keep hb2 gl; obtain ⟨bc0, bc1, bcf0, bcf1, bclt⟩ := box2 gb; obtain ⟨lc0, lc1, lc2, lcf0, lcf1, lcf2, lclt⟩ := box3 gl)
      | (go_at_call 10; refine (newB_any _ _ rfl).mono ?_; rintro e w3 ⟨rfl, hv0, hs3, hb3⟩; have hw3 := hw2.trans (hb3.mono hw2.size); replace gb := blk_keep hb3 gb; replace gl := blk_keep hb3 gl; obtain ⟨bc0, bc1, bcf0, bcf1, bclt⟩ := box2 gb; obtain ⟨lc0, lc1, lc2, lcf0, lcf1, lcf2, lclt⟩ := box3 gl; clear hb3; generalize hV : w2.heap.size = V at *; have hv := hv0 (V + 1); clear hv0; have hz3 : V + 1 ≤ w3.heap.size := Nat.le_of_eq hs3.symm)
      | (go_at_call 11; refine (HS1.out _ V (V + 1) hw3 (by omega) hz3 hv).mono ?_; rintro e w4 ⟨rfl, hv4, hO4⟩; have hw4 := hO4.below hw3 (by omega) (by omega); have hz4 : V + 1 ≤ w4.heap.size := Nat.le_trans hz3 hO4.size; replace hv := hv4; clear hv4; replace gb := hO4.keep gb (by omega); replace gl := hO4.keep gl (by omega); obtain ⟨bc0, bc1, bcf0, bcf1, bclt⟩ := box2 gb; obtain ⟨lc0, lc1, lc2, lcf0, lcf1, lcf2, lclt⟩ := box3 gl)
      | (go_at_call 21; refine (HBY.out _ V (V + 1) hv (by omega)).mono ?_; rintro e w5 ⟨a5, c5, rfl, own5, hb5⟩))
    go_ret
    exact ⟨rfl, hw4.trans (hb5.mono hw4.size)⟩
  obtain ⟨_, _, rfl, rfl, hm0, _, _⟩ := saveE_zero hE
  have hx1 := saveV_ok vt0_ok t v 0 0 l
  have hx1l := saveV_le (x := vt0) (t := t) (v := v) (b := 0) (bt := 0) (l := l) (Nat.zero_le _)
  have hx1e := saveV_eq hE
  have h64 := (mayL_true hm0).2.2.2.2.2.1
  rw [hE] at HS1
  have hpart := fun c => save_part hE c
  have hx1r : readV (saveV vt0 t v 0 0 l).1 = ((t, v, l), (saveV vt0 t v 0 0 l).1.length) := by rw [hx1.whole, hx1e]
  have HBY : Hid (∀ W V base, VtAt W V base (saveV vt0 t v 0 0 l) → V < base → Calls Try.prog 21 #[.pointer (some ⟨V, 0, none⟩)] W (RetRow 5 1 (saveV vt0 t v 0 0 l).1.length ((saveV vt0 t v 0 0 l).1.map byteV) W)) := fun W V base h h' => bytes_any V base _ W h h' (by omega)
  generalize saveV vt0 t v 0 0 l = x1 at HS1 HBY hpart hx1r hx1l
  have HRD : Hid (∀ W A c, CellsB W A x1.1 → x1.1.length ≤ c → Calls Try.prog 22 #[.slice A x1.1.length c] W (RetReadP ((t, v, l), x1.1.length) W)) := fun W A c h h' => by
    have := readP_any A c x1.1 W h h' (by omega)
    rwa [hx1r] at this
  have HLG : Hid (∀ W a1 c1, Below w.heap.size w W → LogIn W a1 c1 l → Calls Try.prog 15 #[logV 0 0 a1 l.length c1, logV 0 0 a l.length cap] W fun e w' => e = .returned (.bool true) ∧ Below W.heap.size W w') := fun W a1 c1 h h' => by
    have := logs_any 0 0 a1 c1 l 0 0 a cap l W h' (hl.below h)
    rwa [show (decide (l = l) && (0 : Int) == 0 && (0 : Int) == 0) = true by simp] at this
  generalize hB : x1.1 = B at *
  have hBc : ((B.length : Int) != (B.length : Int)) = false := by simp
  by_cases hc : cut < 0 ∨ (B.length : Int) < cut
  · have hd : decide (cut < 0) = true ∨ (decide (cut < 0) = false ∧ decide ((B.length : Int) < cut) = true) := by
      by_cases h : cut < 0
      · exact .inl (decide_eq_true h)
      · exact .inr ⟨decide_eq_false h, decide_eq_true (by omega)⟩
    clear hl hlw hE hx1 hx1e hpart hx1r hm0 hc
    rcases hd with hd | ⟨hd, hd'⟩
    · go_enter Try.func8, Try.ntmps8
      go_wp2_with (first
        | (go_at_call 9; refine (vaultAwake_any _).mono ?_; rintro e w2 ⟨rfl, hb2⟩; have gb := alloc2_fst w (.cells #[.int .i64 t, .int .i64 v] 23) (.cells #[.int .i64 0, .int .i64 0, .slice a l.length cap] 26); have gl := alloc2_snd w (.cells #[.int .i64 t, .int .i64 v] 23) (.cells #[.int .i64 0, .int .i64 0, .slice a l.length cap] 26); have hw0 := below2 w (.cells #[.int .i64 t, .int .i64 v] 23) (.cells #[.int .i64 0, .int .i64 0, .slice a l.length cap] 26); have hw2 := hw0.trans (hb2.mono hw0.size); have hz2 : w.heap.size + 2 ≤ w2.heap.size := (by have := hb2.size; simp at this; omega); replace gb := blk_keep hb2 gb; replace gl := blk_keep hb2 gl; obtain ⟨bc0, bc1, bcf0, bcf1, bclt⟩ := box2 gb; obtain ⟨lc0, lc1, lc2, lcf0, lcf1, lcf2, lclt⟩ := box3 gl)
        | (go_at_call 10; refine (newB_any _ _ rfl).mono ?_; rintro e w3 ⟨rfl, hv0, hs3, hb3⟩; have hw3 := hw2.trans (hb3.mono hw2.size); replace gb := blk_keep hb3 gb; replace gl := blk_keep hb3 gl; obtain ⟨bc0, bc1, bcf0, bcf1, bclt⟩ := box2 gb; obtain ⟨lc0, lc1, lc2, lcf0, lcf1, lcf2, lclt⟩ := box3 gl; clear hb3; generalize hV : w2.heap.size = V at *; have hv := hv0 (V + 1); clear hv0; have hz3 : V + 1 ≤ w3.heap.size := Nat.le_of_eq hs3.symm)
        | (go_at_call 11; refine (HS1.out _ V (V + 1) hw3 (by omega) hz3 hv).mono ?_; rintro e w4 ⟨rfl, hv4, hO4⟩; have hw4 := hO4.below hw3 (by omega) (by omega); have hz4 : V + 1 ≤ w4.heap.size := Nat.le_trans hz3 hO4.size; replace hv := hv4; clear hv4; replace gb := hO4.keep gb (by omega); replace gl := hO4.keep gl (by omega); obtain ⟨bc0, bc1, bcf0, bcf1, bclt⟩ := box2 gb; obtain ⟨lc0, lc1, lc2, lcf0, lcf1, lcf2, lclt⟩ := box3 gl)
        | (go_at_call 21; refine (HBY.out _ V (V + 1) hv (by omega)).mono ?_; rintro e w5 ⟨a5, c5, rfl, own5, hb5⟩; have hw5 := hw4.trans (hb5.mono hw4.size); clear hv; replace gb := blk_keep hb5 gb; replace gl := blk_keep hb5 gl; obtain ⟨bc0, bc1, bcf0, bcf1, bclt⟩ := box2 gb; obtain ⟨lc0, lc1, lc2, lcf0, lcf1, lcf2, lclt⟩ := box3 gl)
        | (go_at_call 22; refine (HRD.out _ a5 c5 (RowAt.of_own own5) (own_le' own5)).mono ?_; rintro e w6 ⟨a6, c6, rfl, own6, hb6⟩; simp only at own6; have hw6 := hw5.trans (hb6.mono hw5.size); have own56 := own_below own5 hb6; replace gb := blk_keep hb6 gb; replace gl := blk_keep hb6 gl; obtain ⟨bc0, bc1, bcf0, bcf1, bclt⟩ := box2 gb; obtain ⟨lc0, lc1, lc2, lcf0, lcf1, lcf2, lclt⟩ := box3 gl)
        | (go_at_call 15; refine (HLG.out _ _ _ (hw6.trans ((below2 w6 _ _).mono hw6.size)) ((LogIn.of_own own6).below (below2 w6 (.cells #[.int .i64 t, .int .i64 v] 23) (.cells #[.int .i64 0, .int .i64 0, .slice a6 l.length c6] 26)))).mono ?_; rintro e w7 ⟨rfl, hb7⟩; have hb67 := (below2 w6 (.cells #[.int .i64 t, .int .i64 v] 23) (.cells #[.int .i64 0, .int .i64 0, .slice a6 l.length c6] 26)).trans (hb7.mono (below2 w6 _ _).size); have hw7 := hw6.trans (hb67.mono hw6.size); have own57 := own_below own56 hb67; have gx7 := blk_keep hb7 (alloc2_fst w6 (.cells #[.int .i64 t, .int .i64 v] 23) (.cells #[.int .i64 0, .int .i64 0, .slice a6 l.length c6] 26)); obtain ⟨xc0, xc1, xcf0, xcf1, xclt⟩ := box2 gx7; replace gb := blk_keep hb67 gb; replace gl := blk_keep hb67 gl; obtain ⟨bc0, bc1, bcf0, bcf1, bclt⟩ := box2 gb; obtain ⟨lc0, lc1, lc2, lcf0, lcf1, lcf2, lclt⟩ := box3 gl))
      go_ret
      exact ⟨rfl, hw7⟩
    · go_enter Try.func8, Try.ntmps8
      go_wp2_with (first
        | (go_at_call 9; refine (vaultAwake_any _).mono ?_; rintro e w2 ⟨rfl, hb2⟩; have gb := alloc2_fst w (.cells #[.int .i64 t, .int .i64 v] 23) (.cells #[.int .i64 0, .int .i64 0, .slice a l.length cap] 26); have gl := alloc2_snd w (.cells #[.int .i64 t, .int .i64 v] 23) (.cells #[.int .i64 0, .int .i64 0, .slice a l.length cap] 26); have hw0 := below2 w (.cells #[.int .i64 t, .int .i64 v] 23) (.cells #[.int .i64 0, .int .i64 0, .slice a l.length cap] 26); have hw2 := hw0.trans (hb2.mono hw0.size); have hz2 : w.heap.size + 2 ≤ w2.heap.size := (by have := hb2.size; simp at this; omega); replace gb := blk_keep hb2 gb; replace gl := blk_keep hb2 gl; obtain ⟨bc0, bc1, bcf0, bcf1, bclt⟩ := box2 gb; obtain ⟨lc0, lc1, lc2, lcf0, lcf1, lcf2, lclt⟩ := box3 gl)
        | (go_at_call 10; refine (newB_any _ _ rfl).mono ?_; rintro e w3 ⟨rfl, hv0, hs3, hb3⟩; have hw3 := hw2.trans (hb3.mono hw2.size); replace gb := blk_keep hb3 gb; replace gl := blk_keep hb3 gl; obtain ⟨bc0, bc1, bcf0, bcf1, bclt⟩ := box2 gb; obtain ⟨lc0, lc1, lc2, lcf0, lcf1, lcf2, lclt⟩ := box3 gl; clear hb3; generalize hV : w2.heap.size = V at *; have hv := hv0 (V + 1); clear hv0; have hz3 : V + 1 ≤ w3.heap.size := Nat.le_of_eq hs3.symm)
        | (go_at_call 11; refine (HS1.out _ V (V + 1) hw3 (by omega) hz3 hv).mono ?_; rintro e w4 ⟨rfl, hv4, hO4⟩; have hw4 := hO4.below hw3 (by omega) (by omega); have hz4 : V + 1 ≤ w4.heap.size := Nat.le_trans hz3 hO4.size; replace hv := hv4; clear hv4; replace gb := hO4.keep gb (by omega); replace gl := hO4.keep gl (by omega); obtain ⟨bc0, bc1, bcf0, bcf1, bclt⟩ := box2 gb; obtain ⟨lc0, lc1, lc2, lcf0, lcf1, lcf2, lclt⟩ := box3 gl)
        | (go_at_call 21; refine (HBY.out _ V (V + 1) hv (by omega)).mono ?_; rintro e w5 ⟨a5, c5, rfl, own5, hb5⟩; have hw5 := hw4.trans (hb5.mono hw4.size); clear hv; replace gb := blk_keep hb5 gb; replace gl := blk_keep hb5 gl; obtain ⟨bc0, bc1, bcf0, bcf1, bclt⟩ := box2 gb; obtain ⟨lc0, lc1, lc2, lcf0, lcf1, lcf2, lclt⟩ := box3 gl)
        | (go_at_call 22; refine (HRD.out _ a5 c5 (RowAt.of_own own5) (own_le' own5)).mono ?_; rintro e w6 ⟨a6, c6, rfl, own6, hb6⟩; simp only at own6; have hw6 := hw5.trans (hb6.mono hw5.size); have own56 := own_below own5 hb6; replace gb := blk_keep hb6 gb; replace gl := blk_keep hb6 gl; obtain ⟨bc0, bc1, bcf0, bcf1, bclt⟩ := box2 gb; obtain ⟨lc0, lc1, lc2, lcf0, lcf1, lcf2, lclt⟩ := box3 gl)
        | (go_at_call 15; refine (HLG.out _ _ _ (hw6.trans ((below2 w6 _ _).mono hw6.size)) ((LogIn.of_own own6).below (below2 w6 (.cells #[.int .i64 t, .int .i64 v] 23) (.cells #[.int .i64 0, .int .i64 0, .slice a6 l.length c6] 26)))).mono ?_; rintro e w7 ⟨rfl, hb7⟩; have hb67 := (below2 w6 (.cells #[.int .i64 t, .int .i64 v] 23) (.cells #[.int .i64 0, .int .i64 0, .slice a6 l.length c6] 26)).trans (hb7.mono (below2 w6 _ _).size); have hw7 := hw6.trans (hb67.mono hw6.size); have own57 := own_below own56 hb67; have gx7 := blk_keep hb7 (alloc2_fst w6 (.cells #[.int .i64 t, .int .i64 v] 23) (.cells #[.int .i64 0, .int .i64 0, .slice a6 l.length c6] 26)); obtain ⟨xc0, xc1, xcf0, xcf1, xclt⟩ := box2 gx7; replace gb := blk_keep hb67 gb; replace gl := blk_keep hb67 gl; obtain ⟨bc0, bc1, bcf0, bcf1, bclt⟩ := box2 gb; obtain ⟨lc0, lc1, lc2, lcf0, lcf1, lcf2, lclt⟩ := box3 gl))
      go_ret
      exact ⟨rfl, hw7⟩
  obtain ⟨n, rfl⟩ : ∃ n : Nat, cut = (n : Int) := ⟨cut.toNat, by omega⟩
  have hn : n ≤ B.length := by omega
  have hn0 : (0 : Int) ≤ (n : Int) := by omega
  have hn1 : ¬ (B.length : Int) < (n : Int) := by omega
  have htl : (B.take n).length = n := by rw [List.length_take]; omega
  obtain ⟨kq, hkq⟩ := hpart n
  have hr2 := readV_le (B.take n)
  rw [htl] at hr2
  have HRP : Hid (∀ W A c, CellsB W A B → B.length ≤ c → Calls Try.prog 22 #[.slice A n c] W (RetReadP (readV (B.take n)) W)) := fun W A c h h' => by
    have := readP_any A c (B.take n) W (h.take n) (by omega) (by omega)
    rwa [htl] at this
  generalize readV (B.take n) = r at HRP hr2 hkq
  obtain ⟨⟨rt, rv, zs⟩, rn⟩ := r
  simp only at hr2 hkq
  have hz : zs.length ≤ l.length ∧ zs = l.take zs.length := by
    subst hkq
    rw [List.length_take]
    refine ⟨Nat.min_le_right _ _, ?_⟩
    by_cases h : kq ≤ l.length
    · rw [Nat.min_eq_left h]
    · rw [Nat.min_eq_right (by omega), List.take_length, List.take_of_length_le (by omega)]
  have HSM : Hid (∀ W a1 c1, Below w.heap.size w W → LogIn W a1 c1 zs → Calls Try.prog 20 #[.slice a1 zs.length c1, .slice a zs.length cap] W fun e w' => e = .returned (.bool true) ∧ Below W.heap.size W w') := fun W a1 c1 h h' => by
    have hlt : (l.take zs.length).length = zs.length := by rw [List.length_take]; omega
    have := same_any a1 c1 zs a cap (l.take zs.length) W h'.row (by rw [← ensV_take]; exact ((hl.below h).row).take _) h'.max
    rwa [hlt, ← hz.2, decide_eq_true rfl] at this
  have hslt : ∀ W, (Instr.slice 24 (.slice a l.length cap) none (some (.int .i64 (zs.length : Int))) none).run Try.prog W = .ok (.slice a zs.length cap) W := fun W => slice_toS elemE a l.length cap zs.length (Nat.le_trans hz.1 hl.cap) W
  have hzi : (zs.length : Int) ≤ (l.length : Int) := by omega
  have hcapn : n ≤ B.length := hn
  have hrn : (rn : Int) ≤ (n : Int) := by omega
  have HSL := Lib.hid hslt
  clear hl hlw hE hx1 hx1e hpart hx1r hm0 hc hkq hz hslt htl
  go_enter Try.func8, Try.ntmps8
  go_upto_region 18 with (first
    | (go_at_call 22; refine (HRP.out _ a5 c5 (RowAt.of_own own57) (own_le' own57)).mono ?_; rintro e w8 ⟨a8, c8, rfl, own8, hb8⟩; simp only at own8; have hw8 := hw7.trans (hb8.mono hw7.size); have gx8 := alloc2_snd w8 (.cells #[.int .i64 rt, .int .i64 rv] 23) (.cells #[.int .i64 0, .int .i64 0, .slice a8 zs.length c8] 26); obtain ⟨zc0, zc1, zc2, zf0, zf1, zf2, zlt⟩ := box3 gx8; have hw8' := hw8.trans ((below2 w8 (.cells #[.int .i64 rt, .int .i64 rv] 23) (.cells #[.int .i64 0, .int .i64 0, .slice a8 zs.length c8] 26)).mono hw8.size); have hl8 := (LogIn.of_own own8).below (below2 w8 (.cells #[.int .i64 rt, .int .i64 rv] 23) (.cells #[.int .i64 0, .int .i64 0, .slice a8 zs.length c8] 26)); replace gb := blk_keep hb8 gb; replace gl := blk_keep hb8 gl; have gl8 := blk_keep (below2 w8 (.cells #[.int .i64 rt, .int .i64 rv] 23) (.cells #[.int .i64 0, .int .i64 0, .slice a8 zs.length c8] 26)) gl; obtain ⟨lc0, lc1, lc2, lcf0, lcf1, lcf2, lclt⟩ := box3 gl8)
    | (go_at_call 9; refine (vaultAwake_any _).mono ?_; rintro e w2 ⟨rfl, hb2⟩; have gb := alloc2_fst w (.cells #[.int .i64 t, .int .i64 v] 23) (.cells #[.int .i64 0, .int .i64 0, .slice a l.length cap] 26); have gl := alloc2_snd w (.cells #[.int .i64 t, .int .i64 v] 23) (.cells #[.int .i64 0, .int .i64 0, .slice a l.length cap] 26); have hw0 := below2 w (.cells #[.int .i64 t, .int .i64 v] 23) (.cells #[.int .i64 0, .int .i64 0, .slice a l.length cap] 26); have hw2 := hw0.trans (hb2.mono hw0.size); have hz2 : w.heap.size + 2 ≤ w2.heap.size := (by have := hb2.size; simp at this; omega); replace gb := blk_keep hb2 gb; replace gl := blk_keep hb2 gl; obtain ⟨bc0, bc1, bcf0, bcf1, bclt⟩ := box2 gb; obtain ⟨lc0, lc1, lc2, lcf0, lcf1, lcf2, lclt⟩ := box3 gl)
    | (go_at_call 10; refine (newB_any _ _ rfl).mono ?_; rintro e w3 ⟨rfl, hv0, hs3, hb3⟩; have hw3 := hw2.trans (hb3.mono hw2.size); replace gb := blk_keep hb3 gb; replace gl := blk_keep hb3 gl; obtain ⟨bc0, bc1, bcf0, bcf1, bclt⟩ := box2 gb; obtain ⟨lc0, lc1, lc2, lcf0, lcf1, lcf2, lclt⟩ := box3 gl; clear hb3; generalize hV : w2.heap.size = V at *; have hv := hv0 (V + 1); clear hv0; have hz3 : V + 1 ≤ w3.heap.size := Nat.le_of_eq hs3.symm)
    | (go_at_call 11; refine (HS1.out _ V (V + 1) hw3 (by omega) hz3 hv).mono ?_; rintro e w4 ⟨rfl, hv4, hO4⟩; have hw4 := hO4.below hw3 (by omega) (by omega); have hz4 : V + 1 ≤ w4.heap.size := Nat.le_trans hz3 hO4.size; replace hv := hv4; clear hv4; replace gb := hO4.keep gb (by omega); replace gl := hO4.keep gl (by omega); obtain ⟨bc0, bc1, bcf0, bcf1, bclt⟩ := box2 gb; obtain ⟨lc0, lc1, lc2, lcf0, lcf1, lcf2, lclt⟩ := box3 gl)
    | (go_at_call 21; refine (HBY.out _ V (V + 1) hv (by omega)).mono ?_; rintro e w5 ⟨a5, c5, rfl, own5, hb5⟩; have hw5 := hw4.trans (hb5.mono hw4.size); clear hv; have hs5 := fun W => slice_to a5 B.length c5 n (Nat.le_trans hn (own_le' own5)) W; replace gb := blk_keep hb5 gb; replace gl := blk_keep hb5 gl; obtain ⟨bc0, bc1, bcf0, bcf1, bclt⟩ := box2 gb; obtain ⟨lc0, lc1, lc2, lcf0, lcf1, lcf2, lclt⟩ := box3 gl)
    | (go_at_call 22; refine (HRD.out _ a5 c5 (RowAt.of_own own5) (own_le' own5)).mono ?_; rintro e w6 ⟨a6, c6, rfl, own6, hb6⟩; simp only at own6; have hw6 := hw5.trans (hb6.mono hw5.size); have own56 := own_below own5 hb6; replace gb := blk_keep hb6 gb; replace gl := blk_keep hb6 gl; obtain ⟨bc0, bc1, bcf0, bcf1, bclt⟩ := box2 gb; obtain ⟨lc0, lc1, lc2, lcf0, lcf1, lcf2, lclt⟩ := box3 gl)
    | (go_at_call 15; refine (HLG.out _ _ _ (hw6.trans ((below2 w6 _ _).mono hw6.size)) ((LogIn.of_own own6).below (below2 w6 (.cells #[.int .i64 t, .int .i64 v] 23) (.cells #[.int .i64 0, .int .i64 0, .slice a6 l.length c6] 26)))).mono ?_; rintro e w7 ⟨rfl, hb7⟩; have hb67 := (below2 w6 (.cells #[.int .i64 t, .int .i64 v] 23) (.cells #[.int .i64 0, .int .i64 0, .slice a6 l.length c6] 26)).trans (hb7.mono (below2 w6 _ _).size); have hw7 := hw6.trans (hb67.mono hw6.size); have own57 := own_below own56 hb67; have gx7 := blk_keep hb7 (alloc2_fst w6 (.cells #[.int .i64 t, .int .i64 v] 23) (.cells #[.int .i64 0, .int .i64 0, .slice a6 l.length c6] 26)); obtain ⟨xc0, xc1, xcf0, xcf1, xclt⟩ := box2 gx7; replace gb := blk_keep hb67 gb; replace gl := blk_keep hb67 gl; obtain ⟨bc0, bc1, bcf0, bcf1, bclt⟩ := box2 gb; obtain ⟨lc0, lc1, lc2, lcf0, lcf1, lcf2, lclt⟩ := box3 gl))
  have HS18 := HSL.out
  go_region_held3 (fun W => W.cell? ⟨w8.heap.size + 1, 2, none⟩ = some (.slice a8 zs.length c8) ∧ W.cell? ⟨w.heap.size + 1, 2, none⟩ = some (.slice a l.length cap) ∧ (Instr.slice 24 (.slice a l.length cap) none (some (.int .i64 (zs.length : Int))) none).run Try.prog W = .ok (.slice a zs.length cap) W) (first | exact ⟨zc2, lc2, HS18 _⟩ | exact ⟨ze2, le2, HS18 _⟩) ((go_at_call 20; refine (HSM.out _ a8 c8 (by exact hw8'.drew) (hl8.below (below0 _).drew)).mono ?_; rintro e w9 ⟨rfl, hb9⟩; have ze2 := ((bcell hb9).1 _ _ zlt).trans zc2; have le2 := ((bcell hb9).1 _ _ lclt).trans lc2; have hw9 := hw8'.drew.trans (hb9.mono hw8'.size)))
  go_wp2
  go_ret
  exact ⟨rfl, hw9⟩
end Go.Proofs.Ytnbljcbfnplbaaa
