/-
  Layer 8's laws: VaultAgain.
-/
import Derived.Test.YtnbljcbfnplbaaaVaultP
import Derived.Test.YtnbljcbfnplbaaaBE
namespace Go.Proofs.Ytnbljcbfnplbaaa
open Go.RowKit
set_option linter.unusedVariables false
attribute [local go_sem ↓] Go.wp_at_zero Go.wp_at_succ
set_option maxRecDepth 100000 in
set_option maxHeartbeats 6400000 in
theorem vaultAgain_walk (t v bb bt : Int) (a : Option Addr) (cap : Nat) (l : List En) (keep : Int) (w : World) (hl : LogIn w a cap l) (hlw : ∀ e ∈ l, EnWf e) :
    Calls Try.prog 6 #[ballotV t v, logV bb bt a l.length cap, .int .i64 keep] w fun e w' => e = .returned (.bool true) ∧ Below w.heap.size w w' := by
  by_cases h1 : (70 : Int) < (l.length : Int)
  · clear hl hlw
    go_enter Try.func6, Try.ntmps6
    go_wp2_with (first
      | (go_at_call 9; refine (vaultAwake_any _).mono ?_; rintro e w2 ⟨rfl, hb2⟩; have gb := alloc2_fst w (.cells #[.int .i64 t, .int .i64 v] 23) (.cells #[.int .i64 bb, .int .i64 bt, .slice a l.length cap] 26); have gl := alloc2_snd w (.cells #[.int .i64 t, .int .i64 v] 23) (.cells #[.int .i64 bb, .int .i64 bt, .slice a l.length cap] 26); have hw0 := below2 w (.cells #[.int .i64 t, .int .i64 v] 23) (.cells #[.int .i64 bb, .int .i64 bt, .slice a l.length cap] 26); have hw2 := hw0.trans (hb2.mono hw0.size); have hz2 : w.heap.size + 2 ≤ w2.heap.size := (by have := hb2.size; simp at this; omega); replace gb := blk_keep hb2 gb; replace gl := blk_keep hb2 gl; obtain ⟨bc0, bc1, bcf0, bcf1, bclt⟩ := box2 gb; obtain ⟨lc0, lc1, lc2, lcf0, lcf1, lcf2, lclt⟩ := box3 gl)
      | (go_at_call 10; refine (newB_any _ _ rfl).mono ?_; rintro e w3 ⟨rfl, hv0, hs3, hb3⟩; have hw3 := hw2.trans (hb3.mono hw2.size); replace gb := blk_keep hb3 gb; replace gl := blk_keep hb3 gl; obtain ⟨bc0, bc1, bcf0, bcf1, bclt⟩ := box2 gb; obtain ⟨lc0, lc1, lc2, lcf0, lcf1, lcf2, lclt⟩ := box3 gl; clear hb3; generalize hV : w2.heap.size = V at *; have hv := hv0 (V + 1); clear hv0; have hz3 : V + 1 ≤ w3.heap.size := Nat.le_of_eq hs3.symm))
    go_ret
    exact ⟨rfl, hw3⟩
  have HS1 : Hid (∀ W V base, Below w.heap.size w W → V < base → base ≤ W.heap.size → VtAt W V base vt0 → Calls Try.prog 11 #[.pointer (some ⟨V, 0, none⟩), ballotV t v, logV bb bt a l.length cap] W fun e w' => e = .returned (.int .i64 (saveE vt0 t v bb bt l)) ∧ VtAt w' V base (saveV vt0 t v bb bt l) ∧ Only V W w') := fun W V base h0 h1 h2 h3 => save_any V base vt0 t v bb bt a cap l W h3 h1 h2 (hl.below h0) hlw vt0_ok (Nat.zero_le _)
  by_cases hE : saveE vt0 t v bb bt l = 0
  rotate_left 1
  · have hE' : (saveE vt0 t v bb bt l != 0) = true := by simpa using hE
    rw [vt0_save hE] at HS1
    have HBY : Hid (∀ W V base, VtAt W V base vt0 → V < base → Calls Try.prog 21 #[.pointer (some ⟨V, 0, none⟩)] W (RetRow 5 1 0 [] W)) := fun W V base h h' => bytes_any V base vt0 W h h' (Nat.zero_le _)
    clear hl hlw hE
    generalize saveE vt0 t v bb bt l = E1 at HS1 hE'
    go_enter Try.func6, Try.ntmps6
    go_wp2_with (first
      | (go_at_call 9; refine (vaultAwake_any _).mono ?_; rintro e w2 ⟨rfl, hb2⟩; have gb := alloc2_fst w (.cells #[.int .i64 t, .int .i64 v] 23) (.cells #[.int .i64 bb, .int .i64 bt, .slice a l.length cap] 26); have gl := alloc2_snd w (.cells #[.int .i64 t, .int .i64 v] 23) (.cells #[.int .i64 bb, .int .i64 bt, .slice a l.length cap] 26); have hw0 := below2 w (.cells #[.int .i64 t, .int .i64 v] 23) (.cells #[.int .i64 bb, .int .i64 bt, .slice a l.length cap] 26); have hw2 := hw0.trans (hb2.mono hw0.size); have hz2 : w.heap.size + 2 ≤ w2.heap.size := (by have := hb2.size; simp at this; omega); replace gb := blk_keep hb2 gb; replace gl := blk_keep hb2 gl; obtain ⟨bc0, bc1, bcf0, bcf1, bclt⟩ := box2 gb; obtain ⟨lc0, lc1, lc2, lcf0, lcf1, lcf2, lclt⟩ := box3 gl)
      | (go_at_call 10; refine (newB_any _ _ rfl).mono ?_; rintro e w3 ⟨rfl, hv0, hs3, hb3⟩; have hw3 := hw2.trans (hb3.mono hw2.size); replace gb := blk_keep hb3 gb; replace gl := blk_keep hb3 gl; obtain ⟨bc0, bc1, bcf0, bcf1, bclt⟩ := box2 gb; obtain ⟨lc0, lc1, lc2, lcf0, lcf1, lcf2, lclt⟩ := box3 gl; clear hb3; generalize hV : w2.heap.size = V at *; have hv := hv0 (V + 1); clear hv0; have hz3 : V + 1 ≤ w3.heap.size := Nat.le_of_eq hs3.symm)
      | (go_at_call 11; refine (HS1.out _ V (V + 1) hw3 (by omega) hz3 hv).mono ?_; rintro e w4 ⟨rfl, hv4, hO4⟩; have hw4 := hO4.below hw3 (by omega) (by omega); have hz4 : V + 1 ≤ w4.heap.size := Nat.le_trans hz3 hO4.size; replace hv := hv4; clear hv4; replace gb := hO4.keep gb (by omega); replace gl := hO4.keep gl (by omega); obtain ⟨bc0, bc1, bcf0, bcf1, bclt⟩ := box2 gb; obtain ⟨lc0, lc1, lc2, lcf0, lcf1, lcf2, lclt⟩ := box3 gl)
      | (go_at_call 21; refine (HBY.out _ V (V + 1) hv (by omega)).mono ?_; rintro e w5 ⟨a5, c5, rfl, own5, hb5⟩))
    go_ret
    exact ⟨rfl, hw4.trans (hb5.mono hw4.size)⟩
  obtain ⟨_, _, rfl, rfl, hm0, _, _⟩ := saveE_zero hE
  have hx1 := saveV_ok vt0_ok t v 0 0 l
  have hx1l := saveV_le (x := vt0) (t := t) (v := v) (b := 0) (bt := 0) (l := l) (Nat.zero_le _)
  have hx1e := saveV_eq hE
  have h64 := (mayL_true hm0).2.2.2.2.2.1
  rw [hE] at HS1
  have hag := save_again hE
  have HBY : Hid (∀ W V base, VtAt W V base (saveV vt0 t v 0 0 l) → V < base → Calls Try.prog 21 #[.pointer (some ⟨V, 0, none⟩)] W (RetRow 5 1 (saveV vt0 t v 0 0 l).1.length ((saveV vt0 t v 0 0 l).1.map byteV) W)) := fun W V base h h' => bytes_any V base _ W h h' (by omega)
  have HBZ : Hid (∀ W V base, VtAt W V base (syncV (saveV vt0 t v 0 0 l)) → V < base → Calls Try.prog 21 #[.pointer (some ⟨V, 0, none⟩)] W (RetRow 5 1 (saveV vt0 t v 0 0 l).1.length ((saveV vt0 t v 0 0 l).1.map byteV) W)) := fun W V base h h' => bytes_any V base (syncV (saveV vt0 t v 0 0 l)) W h h' (Nat.le_trans hx1l (by omega))
  have HS2 : Hid (∀ W V base, Below w.heap.size w W → V < base → base ≤ W.heap.size → VtAt W V base (saveV vt0 t v 0 0 l) → Calls Try.prog 11 #[.pointer (some ⟨V, 0, none⟩), ballotV t v, logV 0 0 a l.length cap] W fun e w' => e = .returned (.int .i64 0) ∧ VtAt w' V base (saveV vt0 t v 0 0 l) ∧ Only V W w') := fun W V base h0 h1 h2 h3 => by
    have := save_any V base _ t v 0 0 a cap l W h3 h1 h2 (hl.below h0) hlw hx1 hx1l
    rwa [hag.1, hag.2] at this
  have HSY : Hid (∀ W V base, VtAt W V base (saveV vt0 t v 0 0 l) → V < base → Calls Try.prog 12 #[.pointer (some ⟨V, 0, none⟩)] W fun e w' => e = .returned (.tuple #[]) ∧ VtAt w' V base (syncV (saveV vt0 t v 0 0 l)) ∧ Only V W w') := fun W V base h1 h2 => sync_any V base _ W h1 h2
  have HCR : Hid (∀ W V base, VtAt W V base (syncV (saveV vt0 t v 0 0 l)) → V < base → base ≤ W.heap.size → Calls Try.prog 13 #[.pointer (some ⟨V, 0, none⟩), .int .i64 keep] W fun e w' => e = .returned (.tuple #[]) ∧ VtAt w' V base (syncV (saveV vt0 t v 0 0 l)) ∧ Only V W w') := fun W V base h1 h2 h3 => by
    have := crash_any V base _ keep W h1 h2 h3 (syncV_ok hx1) (Nat.le_trans hx1l (by omega))
    rwa [crash_synced (syncV_ok hx1) rfl keep] at this
  have HLD : Hid (∀ W V base, VtAt W V base (syncV (saveV vt0 t v 0 0 l)) → V < base → Calls Try.prog 14 #[.pointer (some ⟨V, 0, none⟩)] W (RetLoad (t, v, l) W)) := fun W V base h1 h2 => by
    have e : (syncV (saveV vt0 t v 0 0 l)).2.2 = (t, v, l) := by show (saveV vt0 t v 0 0 l).2.2 = _; rw [hx1e]
    have := load_any V base _ W h1 h2 (by rw [e]; show l.length ≤ _; omega)
    rwa [e] at this
  have HLG : Hid (∀ W a1 c1, Below w.heap.size w W → LogIn W a1 c1 l → Calls Try.prog 15 #[logV 0 0 a1 l.length c1, logV 0 0 a l.length cap] W fun e w' => e = .returned (.bool true) ∧ Below W.heap.size W w') := fun W a1 c1 h h' => by
    have := logs_any 0 0 a1 c1 l 0 0 a cap l W h' (hl.below h)
    rwa [show (decide (l = l) && (0 : Int) == 0 && (0 : Int) == 0) = true by simp] at this
  generalize hB : (saveV vt0 t v 0 0 l).1 = B at HBY HBZ hx1l
  generalize saveV vt0 t v 0 0 l = x1 at HS1 HS2 HBY HSY HBZ HCR HLD
  generalize syncV x1 = x2 at HSY HCR HLD HBZ
  have HZ : Hid (∀ (A : Option Addr) (c base : Nat) (W : World), W.ownsRow base 5 1 (.slice A B.length c) B.length (B.map byteV) → (convert 46 9 (.slice A B.length c)).run Try.prog W = .ok (.string (strOf B)) W) := fun A c base W h => run_convert_cells c W (RowAt.of_own h) (own_none h)
  generalize strOf B = SB at HZ
  clear hl hlw hE hx1 hx1e hm0 hag hB
  go_enter Try.func6, Try.ntmps6
  go_upto_region 13 with (first
    | (go_at_call 9; refine (vaultAwake_any _).mono ?_; rintro e w2 ⟨rfl, hb2⟩; have gb := alloc2_fst w (.cells #[.int .i64 t, .int .i64 v] 23) (.cells #[.int .i64 0, .int .i64 0, .slice a l.length cap] 26); have gl := alloc2_snd w (.cells #[.int .i64 t, .int .i64 v] 23) (.cells #[.int .i64 0, .int .i64 0, .slice a l.length cap] 26); have hw0 := below2 w (.cells #[.int .i64 t, .int .i64 v] 23) (.cells #[.int .i64 0, .int .i64 0, .slice a l.length cap] 26); have hw2 := hw0.trans (hb2.mono hw0.size); have hz2 : w.heap.size + 2 ≤ w2.heap.size := (by have := hb2.size; simp at this; omega); replace gb := blk_keep hb2 gb; replace gl := blk_keep hb2 gl; obtain ⟨bc0, bc1, bcf0, bcf1, bclt⟩ := box2 gb; obtain ⟨lc0, lc1, lc2, lcf0, lcf1, lcf2, lclt⟩ := box3 gl)
    | (go_at_call 10; refine (newB_any _ _ rfl).mono ?_; rintro e w3 ⟨rfl, hv0, hs3, hb3⟩; have hw3 := hw2.trans (hb3.mono hw2.size); replace gb := blk_keep hb3 gb; replace gl := blk_keep hb3 gl; obtain ⟨bc0, bc1, bcf0, bcf1, bclt⟩ := box2 gb; obtain ⟨lc0, lc1, lc2, lcf0, lcf1, lcf2, lclt⟩ := box3 gl; clear hb3; generalize hV : w2.heap.size = V at *; have hv := hv0 (V + 1); clear hv0; have hz3 : V + 1 ≤ w3.heap.size := Nat.le_of_eq hs3.symm)
    | (go_at_call 11; refine (HS2.out _ V (V + 1) hw5 (by omega) hz5 hv).mono ?_; rintro e w6 ⟨rfl, hv6, hO6⟩; have hw6 := hO6.below hw5 (by omega) (by omega); have hz6 : V + 1 ≤ w6.heap.size := Nat.le_trans hz5 hO6.size; have own5_6 := own_only own5_5 hO6 (by omega); replace hv := hv6; clear hv6; replace gb := hO6.keep gb (by omega); replace gl := hO6.keep gl (by omega); obtain ⟨bc0, bc1, bcf0, bcf1, bclt⟩ := box2 gb; obtain ⟨lc0, lc1, lc2, lcf0, lcf1, lcf2, lclt⟩ := box3 gl)
    | (go_at_call 11; refine (HS1.out _ V (V + 1) hw3 (by omega) hz3 hv).mono ?_; rintro e w4 ⟨rfl, hv4, hO4⟩; have hw4 := hO4.below hw3 (by omega) (by omega); have hz4 : V + 1 ≤ w4.heap.size := Nat.le_trans hz3 hO4.size; replace hv := hv4; clear hv4; replace gb := hO4.keep gb (by omega); replace gl := hO4.keep gl (by omega); obtain ⟨bc0, bc1, bcf0, bcf1, bclt⟩ := box2 gb; obtain ⟨lc0, lc1, lc2, lcf0, lcf1, lcf2, lclt⟩ := box3 gl)
    | (go_at_call 21; refine (HBY.out _ V (V + 1) hv (by omega)).mono ?_; rintro e w5 ⟨a5, c5, rfl, own5, hb5⟩; have hw5 := hw4.trans (hb5.mono hw4.size); have hz5 : V + 1 ≤ w5.heap.size := Nat.le_trans hz4 hb5.size; have own5_5 := own_base (base' := V + 1) own5 hz4; clear own5; replace hv := hv.below hb5; replace gb := blk_keep hb5 gb; replace gl := blk_keep hb5 gl; obtain ⟨bc0, bc1, bcf0, bcf1, bclt⟩ := box2 gb; obtain ⟨lc0, lc1, lc2, lcf0, lcf1, lcf2, lclt⟩ := box3 gl)
    | (go_at_call 12; refine (HSY.out _ V (V + 1) hv (by omega)).mono ?_; rintro e w7 ⟨rfl, hv7, hO7⟩; have hw7 := hO7.below hw6 (by omega) (by omega); have hz7 : V + 1 ≤ w7.heap.size := Nat.le_trans hz6 hO7.size; have own5_7 := own_only own5_6 hO7 (by omega); replace hv := hv7; clear hv7; replace gb := hO7.keep gb (by omega); replace gl := hO7.keep gl (by omega); obtain ⟨bc0, bc1, bcf0, bcf1, bclt⟩ := box2 gb; obtain ⟨lc0, lc1, lc2, lcf0, lcf1, lcf2, lclt⟩ := box3 gl)
    | (go_at_call 13; refine (HCR.out _ V (V + 1) hv (by omega) hz7).mono ?_; rintro e w8 ⟨rfl, hv8, hO8⟩; have hw8 := hO8.below hw7 (by omega) (by omega); have hz8 : V + 1 ≤ w8.heap.size := Nat.le_trans hz7 hO8.size; have own5_8 := own_only own5_7 hO8 (by omega); replace hv := hv8; clear hv8; replace gb := hO8.keep gb (by omega); replace gl := hO8.keep gl (by omega); obtain ⟨bc0, bc1, bcf0, bcf1, bclt⟩ := box2 gb; obtain ⟨lc0, lc1, lc2, lcf0, lcf1, lcf2, lclt⟩ := box3 gl)
    | (go_at_call 14; refine (HLD.out _ V (V + 1) hv (by omega)).mono ?_; rintro e w9 ⟨a9, c9, rfl, own9, hb9⟩; simp only at own9; have hw9 := hw8.trans (hb9.mono hw8.size); have hbx := hb9.trans ((below2 w9 (.cells #[.int .i64 t, .int .i64 v] 23) (.cells #[.int .i64 0, .int .i64 0, .slice a9 l.length c9] 26)).mono hb9.size); replace hv := hv.below hbx; have own5_9 := own_below own5_8 hbx; have hl9 := (LogIn.of_own own9).below (below2 w9 (.cells #[.int .i64 t, .int .i64 v] 23) (.cells #[.int .i64 0, .int .i64 0, .slice a9 l.length c9] 26)); have gx9 := alloc2_fst w9 (.cells #[.int .i64 t, .int .i64 v] 23) (.cells #[.int .i64 0, .int .i64 0, .slice a9 l.length c9] 26); have hw9' := hw8.trans (hbx.mono hw8.size); have hz9 := Nat.le_trans hz8 hbx.size; replace gb := blk_keep hb9 gb; replace gl := blk_keep hb9 gl; obtain ⟨bc0, bc1, bcf0, bcf1, bclt⟩ := box2 gb; obtain ⟨lc0, lc1, lc2, lcf0, lcf1, lcf2, lclt⟩ := box3 gl)
    | (go_at_call 15; refine (HLG.out _ _ _ hw9' hl9).mono ?_; rintro e w10 ⟨rfl, hb10⟩; have hw10 := hw9'.trans (hb10.mono hw9'.size); replace hv := hv.below hb10; have own5_10 := own_below own5_9 hb10; replace gx9 := blk_keep hb10 gx9; have gb10 := blk_keep hb10 (blk_keep (below2 w9 (.cells #[.int .i64 t, .int .i64 v] 23) (.cells #[.int .i64 0, .int .i64 0, .slice a9 l.length c9] 26)) gb)))
  obtain ⟨xc0, xc1, xf0, xf1, xlt⟩ := box2 gx9
  obtain ⟨bc0, bc1, bcf0, bcf1, bclt⟩ := box2 gb10
  have hcA0 := HZ.out a5 c5 (V + 1) w10.drew (own_below own5_10 (below0 _).drew)
  have e1 : (v == v) = true := by simp
  have e2 : (t == t) = true := by simp
  have hw10' := hw10.drew
  have hvd : VtAt w10.drew V (V + 1) x2 := hv
  have hgx : w10.drew.heap[w9.heap.size]? = _ := gx9
  have hgb : w10.drew.heap[w.heap.size]? = _ := gb10
  have HO5 := Lib.hid own5_10
  have HCALL : Hid (Calls Try.prog 21 #[.pointer (some ⟨V, 0, none⟩)] w10.drew fun e w11 => ∃ a11 c11, e = .returned (.slice a11 B.length c11) ∧ (convert 46 9 (.slice a11 B.length c11)).run Try.prog w11 = .ok (.string SB) w11 ∧ (convert 46 9 (.slice a5 B.length c5)).run Try.prog w11 = .ok (.string SB) w11 ∧ w11.cell? ⟨w9.heap.size, 0, none⟩ = some (.int .i64 t) ∧ w11.cell? ⟨w9.heap.size, 1, none⟩ = some (.int .i64 v) ∧ w11.cell? ⟨w.heap.size, 0, none⟩ = some (.int .i64 t) ∧ w11.cell? ⟨w.heap.size, 1, none⟩ = some (.int .i64 v) ∧ Below w.heap.size w w11) := by
    refine (HBZ.out _ V (V + 1) hvd (by omega)).mono ?_
    rintro e w11 ⟨a11, c11, rfl, own11, hb11⟩
    obtain ⟨xd0, xd1, _⟩ := box2 (blk_keep hb11 (blk_drawn gx9))
    obtain ⟨bd0, bd1, _⟩ := box2 (blk_keep hb11 (blk_drawn gb10))
    exact ⟨a11, c11, rfl, HZ.out a11 c11 _ w11 own11, HZ.out a5 c5 _ w11 (own_below own5_10 ((below0 _).drew.trans hb11)), xd0, xd1, bd0, bd1, hw10'.trans (hb11.mono hw10'.size)⟩
  clear HO5 hgx hgb hvd hw10' hv HS1 HS2 HBY HBZ HSY HCR HLD HLG HZ own5_10 own5_9 own5_8 own5_7 own5_6 own5_5 own9 hb9 hbx hl9 hw0 hb2 hb10 gl gb gx9 gb10 hw2 hw3 hw4 hw5 hw6 hw7 hw8 hw9 hw9' hO4 hO6 hO7 hO8 h1 hx1l h64 hz2 hz3 hz4 hz5 hz6 hz7 hz8 hz9 hs3 hV
  refine wp_region_held_drew (S := fun W => W.cell? ⟨w9.heap.size, 0, none⟩ = some (.int .i64 t) ∧ W.cell? ⟨w9.heap.size, 1, none⟩ = some (.int .i64 v) ∧ W.cell? ⟨w.heap.size, 0, none⟩ = some (.int .i64 t) ∧ W.cell? ⟨w.heap.size, 1, none⟩ = some (.int .i64 v) ∧ (convert 46 9 (.slice a5 B.length c5)).run Try.prog W = .ok (.string SB) W) (by kernel_rfl) ?_ (fun hHeld => ?_)
  · ((try dsimp only); first | exact ⟨xc0, xc1, bc0, bc1, hcA0⟩ | exact ⟨xd0, xd1, bd0, bd1, hcA1⟩)
  refine wpAnyH_take (i := 0) (oi := { dst := some 61, op := Op.move (Operand.tmp 10), type := 31, pos := "more.go:25", after := #[], guard := none }) (v := ?_) rfl (by kernel_rfl) (by kernel_rfl) (by kernel_rfl) (fun _ _ _ h => h) (Or.inl ⟨by rfl, ?_⟩) (by assumption) ?_
  rotate_left 1
  · ((intro w hSw); (try dsimp only at hSw); go_simp; try (with_reducible rfl))
  try simp only [Act.put, List.setIfInBounds_toArray, List.set_cons_zero, List.set_cons_succ]
  refine wpAnyH_take (i := 1) (oi := { dst := some 62, op := Op.binOp BinOp.eql 31 (Operand.tmp 61) (Operand.const (Value.int IntKind.i64 0)) 31, type := 4, pos := "more.go:25", after := #[{ on := 0, ground := Ground.data }], guard := none }) (v := ?_) rfl (by kernel_rfl) (by kernel_rfl) (by kernel_rfl) (fun _ _ _ h => h) (Or.inl ⟨by rfl, ?_⟩) (by assumption) ?_
  rotate_left 1
  · ((intro w hSw); (try dsimp only at hSw); go_simp; try (with_reducible rfl))
  try simp only [Act.put, List.setIfInBounds_toArray, List.set_cons_zero, List.set_cons_succ]
  refine wpAnyH_take (i := 2) (oi := { dst := some 63, op := Op.move (Operand.tmp 62), type := 4, pos := "more.go:25", after := #[{ on := 1, ground := Ground.data }], guard := none }) (v := ?_) rfl (by kernel_rfl) (by kernel_rfl) (by kernel_rfl) (fun _ _ _ h => h) (Or.inl ⟨by rfl, ?_⟩) (by assumption) ?_
  rotate_left 1
  · ((intro w hSw); (try dsimp only at hSw); go_simp; try (with_reducible rfl))
  try simp only [Act.put, List.setIfInBounds_toArray, List.set_cons_zero, List.set_cons_succ]
  refine wpAnyH_take (i := 3) (oi := { dst := some 64, op := Op.move (Operand.tmp 8), type := 29, pos := "more.go:25", after := #[{ on := 2, ground := Ground.guard }], guard := some (2, true) }) (v := ?_) rfl (by kernel_rfl) (by kernel_rfl) (by kernel_rfl) (fun _ _ _ h => h) (Or.inl ⟨by rfl, ?_⟩) (by assumption) ?_
  rotate_left 1
  · ((intro w hSw); (try dsimp only at hSw); go_simp; try (with_reducible rfl))
  try simp only [Act.put, List.setIfInBounds_toArray, List.set_cons_zero, List.set_cons_succ]
  refine wpAnyH_take (i := 6) (oi := { dst := some 67, op := Op.move (Operand.tmp 9), type := 46, pos := "more.go:25", after := #[{ on := 2, ground := Ground.guard }], guard := some (2, true) }) (v := ?_) rfl (by kernel_rfl) (by kernel_rfl) (by kernel_rfl) (fun _ _ _ h => h) (Or.inl ⟨by rfl, ?_⟩) (by assumption) ?_
  rotate_left 1
  · ((intro w hSw); (try dsimp only at hSw); go_simp; try (with_reducible rfl))
  try simp only [Act.put, List.setIfInBounds_toArray, List.set_cons_zero, List.set_cons_succ]
  refine wpAnyH_take (i := 7) (oi := { dst := some 68, op := Op.convert 46 9 (Operand.tmp 67), type := 9, pos := "more.go:25", after := #[{ on := 6, ground := Ground.data }, { on := 2, ground := Ground.guard }], guard := some (2, true) }) (v := ?_) rfl (by kernel_rfl) (by kernel_rfl) (by kernel_rfl) (fun _ _ _ h => h) (Or.inl ⟨by rfl, ?_⟩) (by assumption) ?_
  rotate_left 1
  · ((intro w hSw); (try dsimp only at hSw); go_simp; try (with_reducible rfl))
  try simp only [Act.put, List.setIfInBounds_toArray, List.set_cons_zero, List.set_cons_succ]
  refine wpAnyH_ready (rs := [4]) (by kernel_rfl) (by simp) ?_
  refine AllReadyH.cons (o := { dst := some 65, op := Op.call { callee := Callee.value (Operand.func 21), args := #[Operand.tmp 64], argTypes := #[29] }, type := 46, pos := "more.go:25", after := #[{ on := 3, ground := Ground.data }, { on := 2, ground := Ground.chain }, { on := 2, ground := Ground.guard }], guard := some (2, true) }) rfl (fun K hK => ?_) ?_
  rotate_left 1
  · exact AllReadyH.nil
  go_simp
  (go_at_call 21; refine HCALL.out.mono ?_; rintro e w11 ⟨a11, c11, rfl, hcB, hcA1, xd0, xd1, bd0, bd1, hw11⟩)
  refine hK.out _ _ ?_ (fun hHeld => ?_)
  · ((try dsimp only); first | exact ⟨xc0, xc1, bc0, bc1, hcA0⟩ | exact ⟨xd0, xd1, bd0, bd1, hcA1⟩)
  clear hK K
  try simp only [Act.put, List.setIfInBounds_toArray, List.set_cons_zero, List.set_cons_succ]
  refine wpAnyH_ready (rs := [5]) (by kernel_rfl) (by simp) ?_
  refine AllReadyH.cons (o := { dst := some 66, op := Op.convert 46 9 (Operand.tmp 65), type := 9, pos := "more.go:25", after := #[{ on := 4, ground := Ground.data }, { on := 2, ground := Ground.guard }], guard := some (2, true) }) rfl (fun K hK => ?_) ?_
  rotate_left 1
  · exact AllReadyH.nil
  go_simp
  try skip
  refine hK.out _ _ ?_ (fun hHeld => ?_)
  · ((try dsimp only); first | exact ⟨xc0, xc1, bc0, bc1, hcA0⟩ | exact ⟨xd0, xd1, bd0, bd1, hcA1⟩)
  clear hK K
  try simp only [Act.put, List.setIfInBounds_toArray, List.set_cons_zero, List.set_cons_succ]
  refine wpAnyH_take (i := 8) (oi := { dst := some 69, op := Op.binOp BinOp.eql 9 (Operand.tmp 66) (Operand.tmp 68) 9, type := 4, pos := "more.go:25", after := #[{ on := 5, ground := Ground.data }, { on := 7, ground := Ground.data }, { on := 2, ground := Ground.guard }], guard := some (2, true) }) (v := ?_) rfl (by kernel_rfl) (by kernel_rfl) (by kernel_rfl) (fun _ _ _ h => h) (Or.inl ⟨by rfl, ?_⟩) (by assumption) ?_
  rotate_left 1
  · ((intro w hSw); (try dsimp only at hSw); go_simp; try (with_reducible rfl))
  try simp only [Act.put, List.setIfInBounds_toArray, List.set_cons_zero, List.set_cons_succ]
  refine wpAnyH_take (i := 9) (oi := { dst := some 70, op := Op.pick (Operand.tmp 63) (Operand.tmp 69) (Operand.const (Value.bool false)), type := 4, pos := "more.go:25", after := #[{ on := 2, ground := Ground.data }, { on := 8, ground := Ground.data }], guard := none }) (v := ?_) rfl (by kernel_rfl) (by kernel_rfl) (by kernel_rfl) (fun _ _ _ h => h) (Or.inl ⟨by rfl, ?_⟩) (by assumption) ?_
  rotate_left 1
  · ((intro w hSw); (try dsimp only at hSw); go_simp; try (with_reducible rfl))
  try simp only [Act.put, List.setIfInBounds_toArray, List.set_cons_zero, List.set_cons_succ]
  refine wpAnyH_take (i := 10) (oi := { dst := some 71, op := Op.move (Operand.tmp 70), type := 4, pos := "more.go:25", after := #[{ on := 9, ground := Ground.data }, { on := 4, ground := Ground.chain }], guard := none }) (v := ?_) rfl (by kernel_rfl) (by kernel_rfl) (by kernel_rfl) (fun _ _ _ h => h) (Or.inl ⟨by rfl, ?_⟩) (by assumption) ?_
  rotate_left 1
  · ((intro w hSw); (try dsimp only at hSw); go_simp; try (with_reducible rfl))
  try simp only [Act.put, List.setIfInBounds_toArray, List.set_cons_zero, List.set_cons_succ]
  refine wpAnyH_take (i := 11) (oi := { dst := some 72, op := Op.load 23 (Operand.tmp 11), type := 23, pos := "more.go:25", after := #[{ on := 10, ground := Ground.guard }], guard := some (10, true) }) (v := ?_) rfl (by kernel_rfl) (by kernel_rfl) (by kernel_rfl) (fun _ _ _ h => h) (Or.inl ⟨by rfl, ?_⟩) (by assumption) ?_
  rotate_left 1
  · ((intro w hSw); (try dsimp only at hSw); go_simp; try (with_reducible rfl))
  try simp only [Act.put, List.setIfInBounds_toArray, List.set_cons_zero, List.set_cons_succ]
  refine wpAnyH_take (i := 12) (oi := { dst := some 73, op := Op.load 23 (Operand.tmp 3), type := 23, pos := "more.go:25", after := #[{ on := 10, ground := Ground.guard }], guard := some (10, true) }) (v := ?_) rfl (by kernel_rfl) (by kernel_rfl) (by kernel_rfl) (fun _ _ _ h => h) (Or.inl ⟨by rfl, ?_⟩) (by assumption) ?_
  rotate_left 1
  · ((intro w hSw); (try dsimp only at hSw); go_simp; try (with_reducible rfl))
  try simp only [Act.put, List.setIfInBounds_toArray, List.set_cons_zero, List.set_cons_succ]
  refine wpAnyH_take (i := 13) (oi := { dst := some 74, op := Op.binOp BinOp.eql 23 (Operand.tmp 72) (Operand.tmp 73) 23, type := 4, pos := "more.go:25", after := #[{ on := 11, ground := Ground.data }, { on := 12, ground := Ground.data }, { on := 10, ground := Ground.guard }], guard := some (10, true) }) (v := ?_) rfl (by kernel_rfl) (by kernel_rfl) (by kernel_rfl) (fun _ _ _ h => h) (Or.inl ⟨by rfl, ?_⟩) (by assumption) ?_
  rotate_left 1
  · ((intro w hSw); (try dsimp only at hSw); go_simp; try (with_reducible rfl))
  try simp only [Act.put, List.setIfInBounds_toArray, List.set_cons_zero, List.set_cons_succ]
  refine wpAnyH_take (i := 14) (oi := { dst := some 75, op := Op.pick (Operand.tmp 71) (Operand.tmp 74) (Operand.const (Value.bool false)), type := 4, pos := "more.go:25", after := #[{ on := 10, ground := Ground.data }, { on := 13, ground := Ground.data }], guard := none }) (v := ?_) rfl (by kernel_rfl) (by kernel_rfl) (by kernel_rfl) (fun _ _ _ h => h) (Or.inl ⟨by rfl, ?_⟩) (by assumption) ?_
  rotate_left 1
  · ((intro w hSw); (try dsimp only at hSw); go_simp; try (with_reducible rfl))
  try simp only [Act.put, List.setIfInBounds_toArray, List.set_cons_zero, List.set_cons_succ]
  refine wpAnyH_take (i := 15) (oi := { dst := some 76, op := Op.move (Operand.tmp 75), type := 4, pos := "more.go:25", after := #[{ on := 14, ground := Ground.data }, { on := 10, ground := Ground.chain }], guard := none }) (v := ?_) rfl (by kernel_rfl) (by kernel_rfl) (by kernel_rfl) (fun _ _ _ h => h) (Or.inl ⟨by rfl, ?_⟩) (by assumption) ?_
  rotate_left 1
  · ((intro w hSw); (try dsimp only at hSw); go_simp; try (with_reducible rfl))
  try simp only [Act.put, List.setIfInBounds_toArray, List.set_cons_zero, List.set_cons_succ]
  refine wpAnyH_take (i := 16) (oi := { dst := some 77, op := Op.move (Operand.tmp 13), type := 4, pos := "more.go:25", after := #[{ on := 15, ground := Ground.guard }], guard := some (15, true) }) (v := ?_) rfl (by kernel_rfl) (by kernel_rfl) (by kernel_rfl) (fun _ _ _ h => h) (Or.inl ⟨by rfl, ?_⟩) (by assumption) ?_
  rotate_left 1
  · ((intro w hSw); (try dsimp only at hSw); go_simp; try (with_reducible rfl))
  try simp only [Act.put, List.setIfInBounds_toArray, List.set_cons_zero, List.set_cons_succ]
  refine wpAnyH_take (i := 17) (oi := { dst := some 78, op := Op.pick (Operand.tmp 76) (Operand.tmp 77) (Operand.const (Value.bool false)), type := 4, pos := "more.go:25", after := #[{ on := 15, ground := Ground.data }, { on := 16, ground := Ground.data }], guard := none }) (v := ?_) rfl (by kernel_rfl) (by kernel_rfl) (by kernel_rfl) (fun _ _ _ h => h) (Or.inl ⟨by rfl, ?_⟩) (by assumption) ?_
  rotate_left 1
  · ((intro w hSw); (try dsimp only at hSw); go_simp; try (with_reducible rfl))
  try simp only [Act.put, List.setIfInBounds_toArray, List.set_cons_zero, List.set_cons_succ]
  refine wpAnyH_take (i := 18) (oi := { dst := some 6, op := Op.assign (Operand.tmp 78), type := 4, pos := "more.go:25", after := #[{ on := 17, ground := Ground.data }, { on := 15, ground := Ground.chain }, { on := 0, ground := Ground.phase }, { on := 1, ground := Ground.phase }, { on := 2, ground := Ground.phase }, { on := 3, ground := Ground.phase }, { on := 4, ground := Ground.phase }, { on := 5, ground := Ground.phase }, { on := 6, ground := Ground.phase }, { on := 7, ground := Ground.phase }, { on := 8, ground := Ground.phase }, { on := 9, ground := Ground.phase }, { on := 10, ground := Ground.phase }, { on := 11, ground := Ground.phase }, { on := 12, ground := Ground.phase }, { on := 13, ground := Ground.phase }, { on := 14, ground := Ground.phase }, { on := 15, ground := Ground.phase }, { on := 16, ground := Ground.phase }, { on := 17, ground := Ground.phase }], guard := none }) (v := ?_) rfl (by kernel_rfl) (by kernel_rfl) (by kernel_rfl) (fun _ _ _ h => h) (Or.inl ⟨by rfl, ?_⟩) (by assumption) ?_
  rotate_left 1
  · ((intro w hSw); (try dsimp only at hSw); go_simp; try (with_reducible rfl))
  try simp only [Act.put, List.setIfInBounds_toArray, List.set_cons_zero, List.set_cons_succ]
  refine wpAnyH_done (by kernel_rfl) ?_ _
  (go_wp2; go_ret; exact ⟨ret_bool (by simp), hw11⟩)
end Go.Proofs.Ytnbljcbfnplbaaa
