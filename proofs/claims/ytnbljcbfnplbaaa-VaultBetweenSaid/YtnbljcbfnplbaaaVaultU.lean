/-
  Layer 8's laws: VaultBetween.
-/
import Derived.Test.YtnbljcbfnplbaaaVaultQ
namespace Go.Proofs.Ytnbljcbfnplbaaa
open Go.RowKit
set_option linter.unusedVariables false
theorem between_at {t v : Int} {es : List En} {t' v' : Int} {fs : List En} {s : St} (h : Between (t, v, es) t' v' fs s) : ((s.1 = t ∧ s.2.1 = v) ∨ (s.1 = t' ∧ s.2.1 = v')) ∧ (∀ i, i < s.2.2.length → es[i]? = s.2.2[i]? ∨ fs[i]? = s.2.2[i]?) ∧ commonN es fs ≤ s.2.2.length := by
  obtain ⟨h1, h2⟩ := h
  obtain ⟨c1, c2, _⟩ := commonN_spec es fs
  refine ⟨h1, ?_, ?_⟩
  · intro i hi
    rcases h2 with ⟨k, _, hk⟩ | ⟨k, _, hk⟩
    · left; rw [hk] at hi ⊢; rw [List.length_take] at hi; rw [List.getElem?_take, if_pos (by omega)]
    · right; rw [hk] at hi ⊢; rw [List.length_take] at hi; rw [List.getElem?_take, if_pos (by omega)]
  · rcases h2 with ⟨k, hk0, hk⟩ | ⟨k, hk0, hk⟩
    · rw [hk, List.length_take]; simp only at hk0 ⊢; omega
    · rw [hk, List.length_take]; simp only at hk0 ⊢; omega
set_option maxRecDepth 100000 in
set_option maxHeartbeats 12800000 in
theorem vaultBetween_walk (t v bb bt : Int) (a : Option Addr) (cap : Nat) (l : List En) (t' v' bb' bt' : Int) (a' : Option Addr) (cap' : Nat) (m : List En) (keep : Int) (w : World) (hl : LogIn w a cap l) (hlw : ∀ e ∈ l, EnWf e) (hm : LogIn w a' cap' m) (hmw : ∀ e ∈ m, EnWf e) :
    Calls Try.prog 4 #[ballotV t v, logV bb bt a l.length cap, ballotV t' v', logV bb' bt' a' m.length cap', .int .i64 keep] w fun e w' => e = .returned (.bool true) ∧ Below w.heap.size w w' := by
  by_cases h1 : (70 : Int) < (l.length : Int)
  · clear hl hm hlw hmw
    go_enter Try.func4, Try.ntmps4
    go_wp2_with (first
      | (go_at_call 9; refine (vaultAwake_any _).mono ?_; rintro e w1 ⟨rfl, hb1⟩; obtain ⟨⟨gb, gl, gc, gm⟩, hz0, hw0⟩ := alloc4 w (.cells #[.int .i64 t, .int .i64 v] 23) (.cells #[.int .i64 bb, .int .i64 bt, .slice a l.length cap] 26) (.cells #[.int .i64 t', .int .i64 v'] 23) (.cells #[.int .i64 bb', .int .i64 bt', .slice a' m.length cap'] 26); have hw1 := hw0.trans (hb1.mono hw0.size); have hz1 := hb1.size; replace gb := blk_keep hb1 gb; replace gl := blk_keep hb1 gl; replace gc := blk_keep hb1 gc; replace gm := blk_keep hb1 gm; obtain ⟨bc0, bc1, bcf0, bcf1, bclt⟩ := box2 gb; obtain ⟨lc0, lc1, lc2, lcf0, lcf1, lcf2, lclt⟩ := box3 gl; obtain ⟨cc0, cc1, ccf0, ccf1, cclt⟩ := box2 gc; obtain ⟨mc0, mc1, mc2, mcf0, mcf1, mcf2, mclt⟩ := box3 gm)
      | (go_at_call 10; refine (newB_any _ _ rfl).mono ?_; rintro e w2 ⟨rfl, hv, hs2, hb2⟩; have hw2 := hw1.trans (hb2.mono hw1.size); replace gb := blk_keep hb2 gb; replace gl := blk_keep hb2 gl; replace gc := blk_keep hb2 gc; replace gm := blk_keep hb2 gm; obtain ⟨bc0, bc1, bcf0, bcf1, bclt⟩ := box2 gb; obtain ⟨lc0, lc1, lc2, lcf0, lcf1, lcf2, lclt⟩ := box3 gl; obtain ⟨cc0, cc1, ccf0, ccf1, cclt⟩ := box2 gc; obtain ⟨mc0, mc1, mc2, mcf0, mcf1, mcf2, mclt⟩ := box3 gm))
    go_ret
    exact ⟨rfl, hw2⟩
  by_cases h2 : (70 : Int) < (m.length : Int)
  · clear hl hm hlw hmw
    go_enter Try.func4, Try.ntmps4
    go_wp2_with (first
      | (go_at_call 9; refine (vaultAwake_any _).mono ?_; rintro e w1 ⟨rfl, hb1⟩; obtain ⟨⟨gb, gl, gc, gm⟩, hz0, hw0⟩ := alloc4 w (.cells #[.int .i64 t, .int .i64 v] 23) (.cells #[.int .i64 bb, .int .i64 bt, .slice a l.length cap] 26) (.cells #[.int .i64 t', .int .i64 v'] 23) (.cells #[.int .i64 bb', .int .i64 bt', .slice a' m.length cap'] 26); have hw1 := hw0.trans (hb1.mono hw0.size); have hz1 := hb1.size; replace gb := blk_keep hb1 gb; replace gl := blk_keep hb1 gl; replace gc := blk_keep hb1 gc; replace gm := blk_keep hb1 gm; obtain ⟨bc0, bc1, bcf0, bcf1, bclt⟩ := box2 gb; obtain ⟨lc0, lc1, lc2, lcf0, lcf1, lcf2, lclt⟩ := box3 gl; obtain ⟨cc0, cc1, ccf0, ccf1, cclt⟩ := box2 gc; obtain ⟨mc0, mc1, mc2, mcf0, mcf1, mcf2, mclt⟩ := box3 gm)
      | (go_at_call 10; refine (newB_any _ _ rfl).mono ?_; rintro e w2 ⟨rfl, hv, hs2, hb2⟩; have hw2 := hw1.trans (hb2.mono hw1.size); replace gb := blk_keep hb2 gb; replace gl := blk_keep hb2 gl; replace gc := blk_keep hb2 gc; replace gm := blk_keep hb2 gm; obtain ⟨bc0, bc1, bcf0, bcf1, bclt⟩ := box2 gb; obtain ⟨lc0, lc1, lc2, lcf0, lcf1, lcf2, lclt⟩ := box3 gl; obtain ⟨cc0, cc1, ccf0, ccf1, cclt⟩ := box2 gc; obtain ⟨mc0, mc1, mc2, mcf0, mcf1, mcf2, mclt⟩ := box3 gm))
    go_ret
    exact ⟨rfl, hw2⟩
  have HS1 : Hid (∀ W V base, Below w.heap.size w W → V < base → base ≤ W.heap.size → VtAt W V base vt0 → Calls Try.prog 11 #[.pointer (some ⟨V, 0, none⟩), ballotV t v, logV bb bt a l.length cap] W fun e w' => e = .returned (.int .i64 (saveE vt0 t v bb bt l)) ∧ VtAt w' V base (saveV vt0 t v bb bt l) ∧ Only V W w') := fun W V base h0 h1 h2 h3 => save_any V base vt0 t v bb bt a cap l W h3 h1 h2 (hl.below h0) hlw vt0_ok (Nat.zero_le _)
  by_cases hE : saveE vt0 t v bb bt l = 0
  rotate_left 1
  · have hE' : (saveE vt0 t v bb bt l != 0) = true := by simpa using hE
    clear hl hlw hE hm hmw
    generalize saveE vt0 t v bb bt l = E1 at HS1 hE'
    generalize saveV vt0 t v bb bt l = x1 at HS1
    go_enter Try.func4, Try.ntmps4
    go_wp2_with (first
      | (go_at_call 9; refine (vaultAwake_any _).mono ?_; rintro e w2 ⟨rfl, hb2⟩; obtain ⟨⟨gb, gl, gc, gm⟩, hz0, hw0⟩ := alloc4 w (.cells #[.int .i64 t, .int .i64 v] 23) (.cells #[.int .i64 bb, .int .i64 bt, .slice a l.length cap] 26) (.cells #[.int .i64 t', .int .i64 v'] 23) (.cells #[.int .i64 bb', .int .i64 bt', .slice a' m.length cap'] 26); have hw2 := hw0.trans (hb2.mono hw0.size); have hz2 : w.heap.size + 4 ≤ w2.heap.size := (by rw [← hz0]; exact hb2.size); replace gb := blk_keep hb2 gb; replace gl := blk_keep hb2 gl; replace gc := blk_keep hb2 gc; replace gm := blk_keep hb2 gm; obtain ⟨bc0, bc1, bcf0, bcf1, bclt⟩ := box2 gb; obtain ⟨lc0, lc1, lc2, lcf0, lcf1, lcf2, lclt⟩ := box3 gl; obtain ⟨cc0, cc1, ccf0, ccf1, cclt⟩ := box2 gc; obtain ⟨mc0, mc1, mc2, mcf0, mcf1, mcf2, mclt⟩ := box3 gm)
      | (go_at_call 10; refine (newB_any _ _ rfl).mono ?_; rintro e w3 ⟨rfl, hv0, hs3, hb3⟩; have hw3 := hw2.trans (hb3.mono hw2.size); replace gb := blk_keep hb3 gb; replace gl := blk_keep hb3 gl; replace gc := blk_keep hb3 gc; replace gm := blk_keep hb3 gm; obtain ⟨bc0, bc1, bcf0, bcf1, bclt⟩ := box2 gb; obtain ⟨lc0, lc1, lc2, lcf0, lcf1, lcf2, lclt⟩ := box3 gl; obtain ⟨cc0, cc1, ccf0, ccf1, cclt⟩ := box2 gc; obtain ⟨mc0, mc1, mc2, mcf0, mcf1, mcf2, mclt⟩ := box3 gm; clear hb3; generalize hV : w2.heap.size = V at *; have hv := hv0 (V + 1); clear hv0; have hz3 : V + 1 ≤ w3.heap.size := Nat.le_of_eq hs3.symm)
      | (go_at_call 11; refine (HS1.out _ V (V + 1) hw3 (by omega) hz3 hv).mono ?_; rintro e w4 ⟨rfl, hv4, hO4⟩; have hw4 := hO4.below hw3 (by omega) (by omega); have hz4 : V + 1 ≤ w4.heap.size := Nat.le_trans hz3 hO4.size; replace hv := hv4; clear hv4; replace gb := hO4.keep gb (by omega); replace gl := hO4.keep gl (by omega); replace gc := hO4.keep gc (by omega); replace gm := hO4.keep gm (by omega); obtain ⟨bc0, bc1, bcf0, bcf1, bclt⟩ := box2 gb; obtain ⟨lc0, lc1, lc2, lcf0, lcf1, lcf2, lclt⟩ := box3 gl; obtain ⟨cc0, cc1, ccf0, ccf1, cclt⟩ := box2 gc; obtain ⟨mc0, mc1, mc2, mcf0, mcf1, mcf2, mclt⟩ := box3 gm))
    go_ret
    exact ⟨rfl, hw4⟩
  obtain ⟨_, _, rfl, rfl, hm0, _, _⟩ := saveE_zero hE
  have hx1 := saveV_ok vt0_ok t v 0 0 l
  have hx1l := saveV_le (x := vt0) (t := t) (v := v) (b := 0) (bt := 0) (l := l) (Nat.zero_le _)
  have hx1e := saveV_eq hE
  have hhel : (syncV (saveV vt0 t v 0 0 l)).2.2 = (t, v, l) := by show (saveV vt0 t v 0 0 l).2.2 = _; rw [hx1e]
  have h64 := (mayL_true hm0).2.2.2.2.2.1
  rw [hE] at HS1
  have HSY : Hid (∀ W V base, VtAt W V base (saveV vt0 t v 0 0 l) → V < base → Calls Try.prog 12 #[.pointer (some ⟨V, 0, none⟩)] W fun e w' => e = .returned (.tuple #[]) ∧ VtAt w' V base (syncV (saveV vt0 t v 0 0 l)) ∧ Only V W w') := fun W V base h1 h2 => sync_any V base _ W h1 h2
  have hx2 := syncV_ok hx1
  have hx2s : (syncV (saveV vt0 t v 0 0 l)).2.1 = (syncV (saveV vt0 t v 0 0 l)).1.length := rfl
  have hx2l : (syncV (saveV vt0 t v 0 0 l)).1.length ≤ 65536 := hx1l
  generalize saveV vt0 t v 0 0 l = x1 at HS1 HSY hx2 hx2s hx2l hhel
  generalize syncV x1 = x2 at HSY hx2 hx2s hx2l hhel
  have HS2 : Hid (∀ W V base, Below w.heap.size w W → V < base → base ≤ W.heap.size → VtAt W V base x2 → Calls Try.prog 11 #[.pointer (some ⟨V, 0, none⟩), ballotV t' v', logV bb' bt' a' m.length cap'] W fun e w' => e = .returned (.int .i64 (saveE x2 t' v' bb' bt' m)) ∧ VtAt w' V base (saveV x2 t' v' bb' bt' m) ∧ Only V W w') := fun W V base h0 h1 h2 h3 => save_any V base x2 t' v' bb' bt' a' cap' m W h3 h1 h2 (hm.below h0) hmw hx2 hx2l
  clear hx1 hx1l hx1e hm0 hE
  by_cases hF : saveE x2 t' v' bb' bt' m = 0
  rotate_left 1
  · have hF' : (saveE x2 t' v' bb' bt' m != 0) = true := by simpa using hF
    clear hl hlw hF hm hmw hx2 hx2s hx2l hhel
    generalize saveE x2 t' v' bb' bt' m = E1 at HS2 hF'
    generalize saveV x2 t' v' bb' bt' m = x3 at HS2
    go_enter Try.func4, Try.ntmps4
    go_wp2_with (first
      | (go_at_call 9; refine (vaultAwake_any _).mono ?_; rintro e w2 ⟨rfl, hb2⟩; obtain ⟨⟨gb, gl, gc, gm⟩, hz0, hw0⟩ := alloc4 w (.cells #[.int .i64 t, .int .i64 v] 23) (.cells #[.int .i64 0, .int .i64 0, .slice a l.length cap] 26) (.cells #[.int .i64 t', .int .i64 v'] 23) (.cells #[.int .i64 bb', .int .i64 bt', .slice a' m.length cap'] 26); have hw2 := hw0.trans (hb2.mono hw0.size); have hz2 : w.heap.size + 4 ≤ w2.heap.size := (by rw [← hz0]; exact hb2.size); replace gb := blk_keep hb2 gb; replace gl := blk_keep hb2 gl; replace gc := blk_keep hb2 gc; replace gm := blk_keep hb2 gm; obtain ⟨bc0, bc1, bcf0, bcf1, bclt⟩ := box2 gb; obtain ⟨lc0, lc1, lc2, lcf0, lcf1, lcf2, lclt⟩ := box3 gl; obtain ⟨cc0, cc1, ccf0, ccf1, cclt⟩ := box2 gc; obtain ⟨mc0, mc1, mc2, mcf0, mcf1, mcf2, mclt⟩ := box3 gm)
      | (go_at_call 10; refine (newB_any _ _ rfl).mono ?_; rintro e w3 ⟨rfl, hv0, hs3, hb3⟩; have hw3 := hw2.trans (hb3.mono hw2.size); replace gb := blk_keep hb3 gb; replace gl := blk_keep hb3 gl; replace gc := blk_keep hb3 gc; replace gm := blk_keep hb3 gm; obtain ⟨bc0, bc1, bcf0, bcf1, bclt⟩ := box2 gb; obtain ⟨lc0, lc1, lc2, lcf0, lcf1, lcf2, lclt⟩ := box3 gl; obtain ⟨cc0, cc1, ccf0, ccf1, cclt⟩ := box2 gc; obtain ⟨mc0, mc1, mc2, mcf0, mcf1, mcf2, mclt⟩ := box3 gm; clear hb3; generalize hV : w2.heap.size = V at *; have hv := hv0 (V + 1); clear hv0; have hz3 : V + 1 ≤ w3.heap.size := Nat.le_of_eq hs3.symm)
      | (go_at_call 12; refine (HSY.out _ V (V + 1) hv (by omega)).mono ?_; rintro e w5 ⟨rfl, hv5, hO5⟩; have hw5 := hO5.below hw4 (by omega) (by omega); have hz5 : V + 1 ≤ w5.heap.size := Nat.le_trans hz4 hO5.size; replace hv := hv5; clear hv5; replace gb := hO5.keep gb (by omega); replace gl := hO5.keep gl (by omega); replace gc := hO5.keep gc (by omega); replace gm := hO5.keep gm (by omega); obtain ⟨bc0, bc1, bcf0, bcf1, bclt⟩ := box2 gb; obtain ⟨lc0, lc1, lc2, lcf0, lcf1, lcf2, lclt⟩ := box3 gl; obtain ⟨cc0, cc1, ccf0, ccf1, cclt⟩ := box2 gc; obtain ⟨mc0, mc1, mc2, mcf0, mcf1, mcf2, mclt⟩ := box3 gm)
      | (go_at_call 11; refine (HS2.out _ V (V + 1) hw5 (by omega) hz5 hv).mono ?_; rintro e w6 ⟨rfl, hv6, hO6⟩; have hw6 := hO6.below hw5 (by omega) (by omega); have hz6 : V + 1 ≤ w6.heap.size := Nat.le_trans hz5 hO6.size; replace hv := hv6; clear hv6; replace gb := hO6.keep gb (by omega); replace gl := hO6.keep gl (by omega); replace gc := hO6.keep gc (by omega); replace gm := hO6.keep gm (by omega); obtain ⟨bc0, bc1, bcf0, bcf1, bclt⟩ := box2 gb; obtain ⟨lc0, lc1, lc2, lcf0, lcf1, lcf2, lclt⟩ := box3 gl; obtain ⟨cc0, cc1, ccf0, ccf1, cclt⟩ := box2 gc; obtain ⟨mc0, mc1, mc2, mcf0, mcf1, mcf2, mclt⟩ := box3 gm)
      | (go_at_call 11; refine (HS1.out _ V (V + 1) hw3 (by omega) hz3 hv).mono ?_; rintro e w4 ⟨rfl, hv4, hO4⟩; have hw4 := hO4.below hw3 (by omega) (by omega); have hz4 : V + 1 ≤ w4.heap.size := Nat.le_trans hz3 hO4.size; replace hv := hv4; clear hv4; replace gb := hO4.keep gb (by omega); replace gl := hO4.keep gl (by omega); replace gc := hO4.keep gc (by omega); replace gm := hO4.keep gm (by omega); obtain ⟨bc0, bc1, bcf0, bcf1, bclt⟩ := box2 gb; obtain ⟨lc0, lc1, lc2, lcf0, lcf1, lcf2, lclt⟩ := box3 gl; obtain ⟨cc0, cc1, ccf0, ccf1, cclt⟩ := box2 gc; obtain ⟨mc0, mc1, mc2, mcf0, mcf1, mcf2, mclt⟩ := box3 gm))
    go_ret
    exact ⟨rfl, hw6⟩
  have hbt := crash_between hx2 hx2s hF keep
  rw [hhel] at hbt
  have hx3 := saveV_ok hx2 t' v' bb' bt' m
  have hx3l := saveV_le (x := x2) (t := t') (v := v') (b := bb') (bt := bt') (l := m) hx2l
  rw [hF] at HS2
  obtain ⟨_, _, rfl, rfl, hm0, _, _⟩ := saveE_zero hF
  have h65 := (mayL_true hm0).2.2.2.2.2.1
  have hx4 := crashV_ok hx3 keep
  have HCR : Hid (∀ W V base, VtAt W V base (saveV x2 t' v' 0 0 m) → V < base → base ≤ W.heap.size → Calls Try.prog 13 #[.pointer (some ⟨V, 0, none⟩), .int .i64 keep] W fun e w' => e = .returned (.tuple #[]) ∧ VtAt w' V base (crashV (saveV x2 t' v' 0 0 m) keep) ∧ Only V W w') := fun W V base h1 h2 h3 => crash_any V base _ keep W h1 h2 h3 hx3 (Nat.le_trans hx3l (by omega))
  generalize saveV x2 t' v' 0 0 m = x3 at HS2 HCR hbt hx4
  have hy64 := held_le hx4
  have HLD : Hid (∀ W V base, VtAt W V base (crashV x3 keep) → V < base → Calls Try.prog 14 #[.pointer (some ⟨V, 0, none⟩)] W (RetLoad (crashV x3 keep).2.2 W)) := fun W V base h1 h2 => load_any V base _ W h1 h2 (by omega)
  generalize hx4e : crashV x3 keep = x4 at HCR HLD hbt hy64
  obtain ⟨_, _, qt, qv, ys⟩ := x4
  simp only at HLD hbt hy64
  obtain ⟨hbal, hat, hcom⟩ := between_at hbt
  simp only at hbal hat hcom
  have HAT := Lib.hid hat
  have HL := Lib.hid hl
  have HM := Lib.hid hm
  have hyi : (ys.length : Int) ≤ 64 := by omega
  obtain ⟨P, hP⟩ : ∃ P, P = commonN l m := ⟨_, rfl⟩
  rw [← hP] at hcom
  have HP := Lib.hid hP
  have hl64 : (l.length : Int) ≤ 64 := by omega
  have hm64 : (m.length : Int) ≤ 64 := by omega
  clear hl hlw hm hmw hx2 hx2s hx2l hhel hF hbt hx3 hx3l hm0 hx4 hx4e hat hP h64 h65
  go_enter Try.func4, Try.ntmps4
  go_upto_region 12 with (first
    | (go_at_call 9; refine (vaultAwake_any _).mono ?_; rintro e w2 ⟨rfl, hb2⟩; obtain ⟨⟨gb, gl, gc, gm⟩, hz0, hw0⟩ := alloc4 w (.cells #[.int .i64 t, .int .i64 v] 23) (.cells #[.int .i64 0, .int .i64 0, .slice a l.length cap] 26) (.cells #[.int .i64 t', .int .i64 v'] 23) (.cells #[.int .i64 0, .int .i64 0, .slice a' m.length cap'] 26); have hw2 := hw0.trans (hb2.mono hw0.size); have hz2 : w.heap.size + 4 ≤ w2.heap.size := (by rw [← hz0]; exact hb2.size); replace gb := blk_keep hb2 gb; replace gl := blk_keep hb2 gl; replace gc := blk_keep hb2 gc; replace gm := blk_keep hb2 gm; obtain ⟨bc0, bc1, bcf0, bcf1, bclt⟩ := box2 gb; obtain ⟨lc0, lc1, lc2, lcf0, lcf1, lcf2, lclt⟩ := box3 gl; obtain ⟨cc0, cc1, ccf0, ccf1, cclt⟩ := box2 gc; obtain ⟨mc0, mc1, mc2, mcf0, mcf1, mcf2, mclt⟩ := box3 gm)
    | (go_at_call 10; refine (newB_any _ _ rfl).mono ?_; rintro e w3 ⟨rfl, hv0, hs3, hb3⟩; have hw3 := hw2.trans (hb3.mono hw2.size); replace gb := blk_keep hb3 gb; replace gl := blk_keep hb3 gl; replace gc := blk_keep hb3 gc; replace gm := blk_keep hb3 gm; obtain ⟨bc0, bc1, bcf0, bcf1, bclt⟩ := box2 gb; obtain ⟨lc0, lc1, lc2, lcf0, lcf1, lcf2, lclt⟩ := box3 gl; obtain ⟨cc0, cc1, ccf0, ccf1, cclt⟩ := box2 gc; obtain ⟨mc0, mc1, mc2, mcf0, mcf1, mcf2, mclt⟩ := box3 gm; clear hb3; generalize hV : w2.heap.size = V at *; have hv := hv0 (V + 1); clear hv0; have hz3 : V + 1 ≤ w3.heap.size := Nat.le_of_eq hs3.symm)
    | (go_at_call 12; refine (HSY.out _ V (V + 1) hv (by omega)).mono ?_; rintro e w5 ⟨rfl, hv5, hO5⟩; have hw5 := hO5.below hw4 (by omega) (by omega); have hz5 : V + 1 ≤ w5.heap.size := Nat.le_trans hz4 hO5.size; replace hv := hv5; clear hv5; replace gb := hO5.keep gb (by omega); replace gl := hO5.keep gl (by omega); replace gc := hO5.keep gc (by omega); replace gm := hO5.keep gm (by omega); obtain ⟨bc0, bc1, bcf0, bcf1, bclt⟩ := box2 gb; obtain ⟨lc0, lc1, lc2, lcf0, lcf1, lcf2, lclt⟩ := box3 gl; obtain ⟨cc0, cc1, ccf0, ccf1, cclt⟩ := box2 gc; obtain ⟨mc0, mc1, mc2, mcf0, mcf1, mcf2, mclt⟩ := box3 gm)
    | (go_at_call 11; refine (HS2.out _ V (V + 1) hw5 (by omega) hz5 hv).mono ?_; rintro e w6 ⟨rfl, hv6, hO6⟩; have hw6 := hO6.below hw5 (by omega) (by omega); have hz6 : V + 1 ≤ w6.heap.size := Nat.le_trans hz5 hO6.size; replace hv := hv6; clear hv6; replace gb := hO6.keep gb (by omega); replace gl := hO6.keep gl (by omega); replace gc := hO6.keep gc (by omega); replace gm := hO6.keep gm (by omega); obtain ⟨bc0, bc1, bcf0, bcf1, bclt⟩ := box2 gb; obtain ⟨lc0, lc1, lc2, lcf0, lcf1, lcf2, lclt⟩ := box3 gl; obtain ⟨cc0, cc1, ccf0, ccf1, cclt⟩ := box2 gc; obtain ⟨mc0, mc1, mc2, mcf0, mcf1, mcf2, mclt⟩ := box3 gm)
    | (go_at_call 11; refine (HS1.out _ V (V + 1) hw3 (by omega) hz3 hv).mono ?_; rintro e w4 ⟨rfl, hv4, hO4⟩; have hw4 := hO4.below hw3 (by omega) (by omega); have hz4 : V + 1 ≤ w4.heap.size := Nat.le_trans hz3 hO4.size; replace hv := hv4; clear hv4; replace gb := hO4.keep gb (by omega); replace gl := hO4.keep gl (by omega); replace gc := hO4.keep gc (by omega); replace gm := hO4.keep gm (by omega); obtain ⟨bc0, bc1, bcf0, bcf1, bclt⟩ := box2 gb; obtain ⟨lc0, lc1, lc2, lcf0, lcf1, lcf2, lclt⟩ := box3 gl; obtain ⟨cc0, cc1, ccf0, ccf1, cclt⟩ := box2 gc; obtain ⟨mc0, mc1, mc2, mcf0, mcf1, mcf2, mclt⟩ := box3 gm)
    | (go_at_call 13; refine (HCR.out _ V (V + 1) hv (by omega) hz6).mono ?_; rintro e w7 ⟨rfl, hv7, hO7⟩; have hw7 := hO7.below hw6 (by omega) (by omega); have hz7 : V + 1 ≤ w7.heap.size := Nat.le_trans hz6 hO7.size; replace hv := hv7; clear hv7; replace gb := hO7.keep gb (by omega); replace gl := hO7.keep gl (by omega); replace gc := hO7.keep gc (by omega); replace gm := hO7.keep gm (by omega); obtain ⟨bc0, bc1, bcf0, bcf1, bclt⟩ := box2 gb; obtain ⟨lc0, lc1, lc2, lcf0, lcf1, lcf2, lclt⟩ := box3 gl; obtain ⟨cc0, cc1, ccf0, ccf1, cclt⟩ := box2 gc; obtain ⟨mc0, mc1, mc2, mcf0, mcf1, mcf2, mclt⟩ := box3 gm)
    | (go_at_call 14; refine (HLD.out _ V (V + 1) hv (by omega)).mono ?_; rintro e w8 ⟨a8, c8, rfl, own8, hb8⟩; simp only at own8; have hbx := hb8.trans ((below2 w8 (.cells #[.int .i64 qt, .int .i64 qv] 23) (.cells #[.int .i64 0, .int .i64 0, .slice a8 ys.length c8] 26)).mono hb8.size); have hw8 := hw7.trans (hbx.mono hw7.size); have hl8 := (LogIn.of_own own8).below (below2 w8 (.cells #[.int .i64 qt, .int .i64 qv] 23) (.cells #[.int .i64 0, .int .i64 0, .slice a8 ys.length c8] 26)); have gx8 := alloc2_fst w8 (.cells #[.int .i64 qt, .int .i64 qv] 23) (.cells #[.int .i64 0, .int .i64 0, .slice a8 ys.length c8] 26); have gy8 := alloc2_snd w8 (.cells #[.int .i64 qt, .int .i64 qv] 23) (.cells #[.int .i64 0, .int .i64 0, .slice a8 ys.length c8] 26); replace gb := blk_keep hbx gb; replace gl := blk_keep hbx gl; replace gc := blk_keep hbx gc; replace gm := blk_keep hbx gm; obtain ⟨bc0, bc1, bcf0, bcf1, bclt⟩ := box2 gb; obtain ⟨lc0, lc1, lc2, lcf0, lcf1, lcf2, lclt⟩ := box3 gl; obtain ⟨cc0, cc1, ccf0, ccf1, cclt⟩ := box2 gc; obtain ⟨mc0, mc1, mc2, mcf0, mcf1, mcf2, mclt⟩ := box3 gm))
  have hy9 := hl8
  obtain ⟨xc0, xc1, xf0, xf1, xlt⟩ := box2 gx8
  obtain ⟨yc0, yc1, yc2, yf0, yf1, yf2, ylt⟩ := box3 gy8
  clear hv hO4 hO5 hO6 hO7 own8 hbx hb8 hl8
  generalize (w8.alloc (.cells #[.int .i64 qt, .int .i64 qv] 23)).alloc (.cells #[.int .i64 0, .int .i64 0, .slice a8 ys.length c8] 26) = W9 at *
  generalize w8.heap.size = X at *
  go_cut [71] (fun b wx => b = .bool false ∧ wx = W9)
  case first =>
    rcases hbal with ⟨rfl, rfl⟩ | ⟨rfl, rfl⟩
    · go_wp2
      go_meet
      exact ⟨rfl, rfl⟩
    · by_cases hq1 : qt = t
      · subst hq1
        by_cases hq2 : qv = v
        · subst hq2
          go_wp2
          go_meet
          exact ⟨rfl, rfl⟩
        · have hq3 : (qv == v) = false := by rw [beq_eq_false_iff_ne]; exact hq2
          clear hq2
          go_wp2
          go_meet
          exact ⟨rfl, rfl⟩
      · have hq3 : (qt == t) = false := by rw [beq_eq_false_iff_ne]; exact hq1
        clear hq1
        go_wp2
        go_meet
        exact ⟨rfl, rfl⟩
  case rest =>
    obtain ⟨rfl, hWc⟩ := hcut
    rw [hWc]
    clear hWc
    go_wp2
    go_loopw [15, 16, 17] (fun i p q wr => ∃ k : Nat, k ≤ ys.length ∧ i = .int .i64 k ∧ Below W9.heap.size W9 wr) (fun i _ _ _ => ys.length - (intOf i).toNat)
    case atStart => exact ⟨0, by omega, rfl, below0 _⟩
    case round =>
      obtain ⟨k, hk, rfl, hbr⟩ := hrel
      obtain ⟨lc0, lc1, lc2, lcf0, lcf1, lcf2, lclt⟩ := box3 (blk_keep hbr gl)
      obtain ⟨mc0, mc1, mc2, mcf0, mcf1, mcf2, mclt⟩ := box3 (blk_keep hbr gm)
      obtain ⟨yc0, yc1, yc2, yf0, yf1, yf2, ylt⟩ := box3 (blk_keep hbr gy8)
      have hk0 : (0 : Int) ≤ (k : Int) := by omega
      by_cases hlt : k < ys.length
      · obtain ⟨eb, eoff, rfl, heb9, d0, d1, d2, d3, d4, d5, d6⟩ := entry_cells hy9.row hlt
        have HX := Lib.hid (HAT.out k hlt)
        rw [List.getElem?_eq_getElem hlt] at HX
        generalize (ys[k]'hlt) = x at d0 d1 d2 d3 d4 d5 d6 HX
        obtain ⟨x0, x1, x2, x3, x4, x5, x6⟩ := x
        simp only at d0 d1 d2 d3 d4 d5 d6
        have HXC : Hid (∀ W, Below W9.heap.size W9 W → W.cell? ⟨eb, eoff + k * 7, none⟩ = some (.int .i64 x0) ∧ W.cell? ⟨eb, eoff + k * 7 + 1, none⟩ = some (.int .i64 x1) ∧ W.cell? ⟨eb, eoff + k * 7 + 2, none⟩ = some (.int .i64 x2) ∧ W.cell? ⟨eb, eoff + k * 7 + 3, none⟩ = some (.int .i64 x3) ∧ W.cell? ⟨eb, eoff + k * 7 + 4, none⟩ = some (.int .i64 x4) ∧ W.cell? ⟨eb, eoff + k * 7 + 5, none⟩ = some (.int .i64 x5) ∧ W.cell? ⟨eb, eoff + k * 7 + 6, none⟩ = some (.int .i64 x6) ∧ eb < W.heap.size) := fun W h => ⟨((bcell h).1 _ _ heb9).trans d0, ((bcell h).1 _ _ heb9).trans d1, ((bcell h).1 _ _ heb9).trans d2, ((bcell h).1 _ _ heb9).trans d3, ((bcell h).1 _ _ heb9).trans d4, ((bcell h).1 _ _ heb9).trans d5, ((bcell h).1 _ _ heb9).trans d6, Nat.lt_of_lt_of_le heb9 h.size⟩
        clear d0 d1 d2 d3 d4 d5 d6
        obtain ⟨c0, c1, c2, c3, c4, c5, c6, hebl⟩ := HXC.out _ hbr
        have hk1 : (k : Int) < (ys.length : Int) := by omega
        have HW := wrap_id (x := (k : Int) + 1) (by omega) (by omega)
        go_upto_region 17 with fail
        go_cut [16] from 79 to 96 (fun p wx => ∃ ob : Bool, p = .bool ob ∧ Hid (ob = true ↔ l[k]? = some (x0, x1, x2, x3, x4, x5, x6)) ∧ Below W9.heap.size W9 wx)
        case first =>
          by_cases hkl : k < l.length
          · obtain ⟨lb, loff, rfl, hlbl, f0, f1, f2, f3, f4, f5, f6⟩ := entry_cells (HL.out.row.below (hw8.trans (hbr.mono hw8.size))) hkl
            have HQ : Hid (l[k]? = some (l[k]'hkl)) := List.getElem?_eq_getElem hkl
            generalize (l[k]'hkl) = y at f0 f1 f2 f3 f4 f5 f6 HQ
            obtain ⟨y0, y1, y2, y3, y4, y5, y6⟩ := y
            simp only at f0 f1 f2 f3 f4 f5 f6
            have hkl1 : (k : Int) < (l.length : Int) := by omega
            by_cases hxy : (y0, y1, y2, y3, y4, y5, y6) = (x0, x1, x2, x3, x4, x5, x6)
            · simp only [Prod.mk.injEq] at hxy
              obtain ⟨rfl, rfl, rfl, rfl, rfl, rfl, rfl⟩ := hxy
              go_wp2
              go_quiet (fail)
              go_wp2
              go_meet
              refine ⟨true, rfl, ?_, Below.many hbr _⟩
              rw [Hid, HQ.out]
              simp
            have HXY := Lib.hid hxy
            clear hxy
            by_cases h0q : y0 = x0
            rotate_left 1
            · have hq : (y0 == x0) = false := by simpa using h0q
              have hq' : (x0 == y0) = false := by rw [beq_eq_false_iff_ne]; exact fun h => h0q h.symm
              clear h0q
              go_wp2
              go_quiet (fail)
              go_wp2
              go_meet
              refine ⟨false, rfl, ?_, Below.many hbr _⟩
              rw [Hid, HQ.out]
              simpa using HXY.out
            subst h0q
            by_cases h1q : y1 = x1
            rotate_left 1
            · have hq : (y1 == x1) = false := by simpa using h1q
              have hq' : (x1 == y1) = false := by rw [beq_eq_false_iff_ne]; exact fun h => h1q h.symm
              clear h1q
              go_wp2
              go_quiet (fail)
              go_wp2
              go_meet
              refine ⟨false, rfl, ?_, Below.many hbr _⟩
              rw [Hid, HQ.out]
              simpa using HXY.out
            subst h1q
            by_cases h2q : y2 = x2
            rotate_left 1
            · have hq : (y2 == x2) = false := by simpa using h2q
              have hq' : (x2 == y2) = false := by rw [beq_eq_false_iff_ne]; exact fun h => h2q h.symm
              clear h2q
              go_wp2
              go_quiet (fail)
              go_wp2
              go_meet
              refine ⟨false, rfl, ?_, Below.many hbr _⟩
              rw [Hid, HQ.out]
              simpa using HXY.out
            subst h2q
            by_cases h3q : y3 = x3
            rotate_left 1
            · have hq : (y3 == x3) = false := by simpa using h3q
              have hq' : (x3 == y3) = false := by rw [beq_eq_false_iff_ne]; exact fun h => h3q h.symm
              clear h3q
              go_wp2
              go_quiet (fail)
              go_wp2
              go_meet
              refine ⟨false, rfl, ?_, Below.many hbr _⟩
              rw [Hid, HQ.out]
              simpa using HXY.out
            subst h3q
            by_cases h4q : y4 = x4
            rotate_left 1
            · have hq : (y4 == x4) = false := by simpa using h4q
              have hq' : (x4 == y4) = false := by rw [beq_eq_false_iff_ne]; exact fun h => h4q h.symm
              clear h4q
              go_wp2
              go_quiet (fail)
              go_wp2
              go_meet
              refine ⟨false, rfl, ?_, Below.many hbr _⟩
              rw [Hid, HQ.out]
              simpa using HXY.out
            subst h4q
            by_cases h5q : y5 = x5
            rotate_left 1
            · have hq : (y5 == x5) = false := by simpa using h5q
              have hq' : (x5 == y5) = false := by rw [beq_eq_false_iff_ne]; exact fun h => h5q h.symm
              clear h5q
              go_wp2
              go_quiet (fail)
              go_wp2
              go_meet
              refine ⟨false, rfl, ?_, Below.many hbr _⟩
              rw [Hid, HQ.out]
              simpa using HXY.out
            subst h5q
            by_cases h6q : y6 = x6
            rotate_left 1
            · have hq : (y6 == x6) = false := by simpa using h6q
              have hq' : (x6 == y6) = false := by rw [beq_eq_false_iff_ne]; exact fun h => h6q h.symm
              clear h6q
              go_wp2
              go_quiet (fail)
              go_wp2
              go_meet
              refine ⟨false, rfl, ?_, Below.many hbr _⟩
              rw [Hid, HQ.out]
              simpa using HXY.out
            subst h6q
            exact (HXY.out rfl).elim
          · have HQ : Hid (l[k]? = none) := List.getElem?_eq_none (by omega)
            have hkl1 : ¬ (k : Int) < (l.length : Int) := by omega
            go_wp2
            go_quiet (fail)
            go_wp2
            go_meet
            refine ⟨false, rfl, ?_, Below.many hbr _⟩
            rw [Hid, HQ.out]
            simp
        case rest =>
          obtain ⟨ob, rfl, HOB, hbr'⟩ := hcut
          clear hbr lc0 lc1 lc2 lcf0 lcf1 lcf2 lclt mc0 mc1 mc2 mcf0 mcf1 mcf2 mclt yc0 yc1 yc2 yf0 yf1 yf2 ylt hebl c0 c1 c2 c3 c4 c5 c6
          have hbr := hbr'
          clear hbr'
          obtain ⟨lc0, lc1, lc2, lcf0, lcf1, lcf2, lclt⟩ := box3 (blk_keep hbr gl)
          obtain ⟨mc0, mc1, mc2, mcf0, mcf1, mcf2, mclt⟩ := box3 (blk_keep hbr gm)
          obtain ⟨yc0, yc1, yc2, yf0, yf1, yf2, ylt⟩ := box3 (blk_keep hbr gy8)
          obtain ⟨c0, c1, c2, c3, c4, c5, c6, hebl⟩ := HXC.out _ hbr
          go_upto_region 18 with fail
          go_cut [17] from 97 to 114 (fun p wx => ∃ ob : Bool, p = .bool ob ∧ Hid (ob = true ↔ m[k]? = some (x0, x1, x2, x3, x4, x5, x6)) ∧ Below W9.heap.size W9 wx)
          case first =>
            by_cases hkl : k < m.length
            · obtain ⟨lb, loff, rfl, hlbl, f0, f1, f2, f3, f4, f5, f6⟩ := entry_cells (HM.out.row.below (hw8.trans (hbr.mono hw8.size))) hkl
              have HQ : Hid (m[k]? = some (m[k]'hkl)) := List.getElem?_eq_getElem hkl
              generalize (m[k]'hkl) = y at f0 f1 f2 f3 f4 f5 f6 HQ
              obtain ⟨y0, y1, y2, y3, y4, y5, y6⟩ := y
              simp only at f0 f1 f2 f3 f4 f5 f6
              have hkl1 : (k : Int) < (m.length : Int) := by omega
              by_cases hxy : (y0, y1, y2, y3, y4, y5, y6) = (x0, x1, x2, x3, x4, x5, x6)
              · simp only [Prod.mk.injEq] at hxy
                obtain ⟨rfl, rfl, rfl, rfl, rfl, rfl, rfl⟩ := hxy
                go_wp2
                go_quiet (fail)
                go_wp2
                go_meet
                refine ⟨true, rfl, ?_, Below.many hbr _⟩
                rw [Hid, HQ.out]
                simp
              have HXY := Lib.hid hxy
              clear hxy
              by_cases h0q : y0 = x0
              rotate_left 1
              · have hq : (y0 == x0) = false := by simpa using h0q
                have hq' : (x0 == y0) = false := by rw [beq_eq_false_iff_ne]; exact fun h => h0q h.symm
                clear h0q
                go_wp2
                go_quiet (fail)
                go_wp2
                go_meet
                refine ⟨false, rfl, ?_, Below.many hbr _⟩
                rw [Hid, HQ.out]
                simpa using HXY.out
              subst h0q
              by_cases h1q : y1 = x1
              rotate_left 1
              · have hq : (y1 == x1) = false := by simpa using h1q
                have hq' : (x1 == y1) = false := by rw [beq_eq_false_iff_ne]; exact fun h => h1q h.symm
                clear h1q
                go_wp2
                go_quiet (fail)
                go_wp2
                go_meet
                refine ⟨false, rfl, ?_, Below.many hbr _⟩
                rw [Hid, HQ.out]
                simpa using HXY.out
              subst h1q
              by_cases h2q : y2 = x2
              rotate_left 1
              · have hq : (y2 == x2) = false := by simpa using h2q
                have hq' : (x2 == y2) = false := by rw [beq_eq_false_iff_ne]; exact fun h => h2q h.symm
                clear h2q
                go_wp2
                go_quiet (fail)
                go_wp2
                go_meet
                refine ⟨false, rfl, ?_, Below.many hbr _⟩
                rw [Hid, HQ.out]
                simpa using HXY.out
              subst h2q
              by_cases h3q : y3 = x3
              rotate_left 1
              · have hq : (y3 == x3) = false := by simpa using h3q
                have hq' : (x3 == y3) = false := by rw [beq_eq_false_iff_ne]; exact fun h => h3q h.symm
                clear h3q
                go_wp2
                go_quiet (fail)
                go_wp2
                go_meet
                refine ⟨false, rfl, ?_, Below.many hbr _⟩
                rw [Hid, HQ.out]
                simpa using HXY.out
              subst h3q
              by_cases h4q : y4 = x4
              rotate_left 1
              · have hq : (y4 == x4) = false := by simpa using h4q
                have hq' : (x4 == y4) = false := by rw [beq_eq_false_iff_ne]; exact fun h => h4q h.symm
                clear h4q
                go_wp2
                go_quiet (fail)
                go_wp2
                go_meet
                refine ⟨false, rfl, ?_, Below.many hbr _⟩
                rw [Hid, HQ.out]
                simpa using HXY.out
              subst h4q
              by_cases h5q : y5 = x5
              rotate_left 1
              · have hq : (y5 == x5) = false := by simpa using h5q
                have hq' : (x5 == y5) = false := by rw [beq_eq_false_iff_ne]; exact fun h => h5q h.symm
                clear h5q
                go_wp2
                go_quiet (fail)
                go_wp2
                go_meet
                refine ⟨false, rfl, ?_, Below.many hbr _⟩
                rw [Hid, HQ.out]
                simpa using HXY.out
              subst h5q
              by_cases h6q : y6 = x6
              rotate_left 1
              · have hq : (y6 == x6) = false := by simpa using h6q
                have hq' : (x6 == y6) = false := by rw [beq_eq_false_iff_ne]; exact fun h => h6q h.symm
                clear h6q
                go_wp2
                go_quiet (fail)
                go_wp2
                go_meet
                refine ⟨false, rfl, ?_, Below.many hbr _⟩
                rw [Hid, HQ.out]
                simpa using HXY.out
              subst h6q
              exact (HXY.out rfl).elim
            · have HQ : Hid (m[k]? = none) := List.getElem?_eq_none (by omega)
              have hkl1 : ¬ (k : Int) < (m.length : Int) := by omega
              go_wp2
              go_quiet (fail)
              go_wp2
              go_meet
              refine ⟨false, rfl, ?_, Below.many hbr _⟩
              rw [Hid, HQ.out]
              simp
          case rest =>
            obtain ⟨nb, rfl, HNB, hbr'⟩ := hcut
            have HOR : Hid (ob = true ∨ nb = true) := HX.out.elim (fun h => .inl (HOB.out.2 h)) (fun h => .inr (HNB.out.2 h))
            cases ob with
            | true =>
              go_wp2
              go_roundw
              case rel => exact ⟨k + 1, by omega, by go_num, hbr'⟩
              case measure => simp [intOf]; omega
            | false =>
              obtain rfl : nb = true := by simpa using HOR.out
              go_wp2
              go_roundw
              case rel => exact ⟨k + 1, by omega, by go_num, hbr'⟩
              case measure => simp [intOf]; omega
      · have hk1 : ¬ (k : Int) < (ys.length : Int) := by omega
        have HCOM := Lib.hid hcom
        clear HAT hcom
        go_wp2
        go_loopw [18] (fun i wr2 => ∃ k : Nat, k ≤ l.length ∧ k ≤ m.length ∧ i = .int .i64 k ∧ Hid (l.take k = m.take k) ∧ Below W9.heap.size W9 wr2) (fun i _ => l.length - (intOf i).toNat)
        case atStart => exact ⟨0, by omega, by omega, rfl, rfl, hbr⟩
        case round =>
          clear lc0 lc1 lc2 lcf0 lcf1 lcf2 lclt mc0 mc1 mc2 mcf0 mcf1 mcf2 mclt yc0 yc1 yc2 yf0 yf1 yf2 ylt hk0 hk1 hk
          obtain ⟨k, hk1, hk2, rfl, HT, hbq⟩ := hrel
          obtain ⟨lc0, lc1, lc2, lcf0, lcf1, lcf2, lclt⟩ := box3 (blk_keep hbq gl)
          obtain ⟨mc0, mc1, mc2, mcf0, mcf1, mcf2, mclt⟩ := box3 (blk_keep hbq gm)
          obtain ⟨yc0, yc1, yc2, yf0, yf1, yf2, ylt⟩ := box3 (blk_keep hbq gy8)
          have hk0 : (0 : Int) ≤ (k : Int) := by omega
          have hwq := hw8.trans (hbq.mono hw8.size)
          have HKP : Hid ((k < l.length → k < m.length → l[k]? ≠ m[k]?) → k = P) := fun h => (HP.out.trans (commonN_eq hk1 hk2 HT.out h)).symm
          have HW := wrap_id (x := (k : Int) + 1) (by omega) (by omega)
          by_cases hlt1 : k < l.length
          · by_cases hlt2 : k < m.length
            · obtain ⟨lb, loff, rfl, hlbl, f0, f1, f2, f3, f4, f5, f6⟩ := entry_cells (HL.out.row.below hwq) hlt1
              obtain ⟨mb, moff, rfl, hmbl, c0, c1, c2, c3, c4, c5, c6⟩ := entry_cells (HM.out.row.below hwq) hlt2
              have HG : Hid (l[k]'hlt1 = m[k]'hlt2 → l.take (k + 1) = m.take (k + 1)) := take_eq_go hlt1 hlt2 HT.out
              have HN : Hid (l[k]'hlt1 ≠ m[k]'hlt2 → k = P) := fun h => HKP.out (fun _ _ => by rw [List.getElem?_eq_getElem hlt1, List.getElem?_eq_getElem hlt2]; exact fun e => h (Option.some.inj e))
              generalize (l[k]'hlt1) = y at f0 f1 f2 f3 f4 f5 f6 HG HN
              generalize (m[k]'hlt2) = x at c0 c1 c2 c3 c4 c5 c6 HG HN
              obtain ⟨x0, x1, x2, x3, x4, x5, x6⟩ := x
              obtain ⟨y0, y1, y2, y3, y4, y5, y6⟩ := y
              simp only at c0 c1 c2 c3 c4 c5 c6 f0 f1 f2 f3 f4 f5 f6
              have hkl1 : (k : Int) < (l.length : Int) := by omega
              have hkl2 : (k : Int) < (m.length : Int) := by omega
              by_cases hxy : (y0, y1, y2, y3, y4, y5, y6) = (x0, x1, x2, x3, x4, x5, x6)
              · have HG2 := Lib.hid (HG.out hxy)
                simp only [Prod.mk.injEq] at hxy
                obtain ⟨rfl, rfl, rfl, rfl, rfl, rfl, rfl⟩ := hxy
                clear HN HG HKP
                go_wp2
                go_quiet (fail)
                go_wp2
                go_roundw
                case rel => exact ⟨k + 1, by omega, by omega, by go_num, HG2, Below.many hbq _⟩
                case measure => simp [intOf]; omega
              have HNE := Lib.hid (HN.out hxy)
              have HXY := Lib.hid hxy
              clear hxy HN HG HKP
              by_cases h0q : y0 = x0
              rotate_left 1
              · have hq : (y0 == x0) = false := by simpa using h0q
                clear h0q
                go_wp2
                go_quiet (fail)
                go_wp2
                go_ret
                refine ⟨ret_bool ?_, Below.many (hw8.trans (hbq.mono hw8.size)) _⟩
                have := HNE.out
                have := HCOM.out
                simp
                omega
              subst h0q
              by_cases h1q : y1 = x1
              rotate_left 1
              · have hq : (y1 == x1) = false := by simpa using h1q
                clear h1q
                go_wp2
                go_quiet (fail)
                go_wp2
                go_ret
                refine ⟨ret_bool ?_, Below.many (hw8.trans (hbq.mono hw8.size)) _⟩
                have := HNE.out
                have := HCOM.out
                simp
                omega
              subst h1q
              by_cases h2q : y2 = x2
              rotate_left 1
              · have hq : (y2 == x2) = false := by simpa using h2q
                clear h2q
                go_wp2
                go_quiet (fail)
                go_wp2
                go_ret
                refine ⟨ret_bool ?_, Below.many (hw8.trans (hbq.mono hw8.size)) _⟩
                have := HNE.out
                have := HCOM.out
                simp
                omega
              subst h2q
              by_cases h3q : y3 = x3
              rotate_left 1
              · have hq : (y3 == x3) = false := by simpa using h3q
                clear h3q
                go_wp2
                go_quiet (fail)
                go_wp2
                go_ret
                refine ⟨ret_bool ?_, Below.many (hw8.trans (hbq.mono hw8.size)) _⟩
                have := HNE.out
                have := HCOM.out
                simp
                omega
              subst h3q
              by_cases h4q : y4 = x4
              rotate_left 1
              · have hq : (y4 == x4) = false := by simpa using h4q
                clear h4q
                go_wp2
                go_quiet (fail)
                go_wp2
                go_ret
                refine ⟨ret_bool ?_, Below.many (hw8.trans (hbq.mono hw8.size)) _⟩
                have := HNE.out
                have := HCOM.out
                simp
                omega
              subst h4q
              by_cases h5q : y5 = x5
              rotate_left 1
              · have hq : (y5 == x5) = false := by simpa using h5q
                clear h5q
                go_wp2
                go_quiet (fail)
                go_wp2
                go_ret
                refine ⟨ret_bool ?_, Below.many (hw8.trans (hbq.mono hw8.size)) _⟩
                have := HNE.out
                have := HCOM.out
                simp
                omega
              subst h5q
              by_cases h6q : y6 = x6
              rotate_left 1
              · have hq : (y6 == x6) = false := by simpa using h6q
                clear h6q
                go_wp2
                go_quiet (fail)
                go_wp2
                go_ret
                refine ⟨ret_bool ?_, Below.many (hw8.trans (hbq.mono hw8.size)) _⟩
                have := HNE.out
                have := HCOM.out
                simp
                omega
              subst h6q
              exact (HXY.out rfl).elim
            · have HNE := Lib.hid (HKP.out (fun _ h => absurd h hlt2))
              have hkl1 : (k : Int) < (l.length : Int) := by omega
              have hkl2 : ¬ (k : Int) < (m.length : Int) := by omega
              go_wp2
              go_quiet (fail)
              go_wp2
              go_ret
              refine ⟨ret_bool ?_, Below.many (hw8.trans (hbq.mono hw8.size)) _⟩
              have := HNE.out
              have := HCOM.out
              simp
              omega
          · have HNE := Lib.hid (HKP.out (fun h _ => absurd h hlt1))
            have hkl1 : ¬ (k : Int) < (l.length : Int) := by omega
            go_wp2
            go_quiet (fail)
            go_wp2
            go_ret
            refine ⟨ret_bool ?_, Below.many (hw8.trans (hbq.mono hw8.size)) _⟩
            have := HNE.out
            have := HCOM.out
            simp
            omega
end Go.Proofs.Ytnbljcbfnplbaaa
