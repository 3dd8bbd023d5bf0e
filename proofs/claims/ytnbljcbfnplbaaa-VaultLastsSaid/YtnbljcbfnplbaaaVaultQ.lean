/-
  Layer 8's laws: VaultLasts.
-/
import Derived.Test.YtnbljcbfnplbaaaVaultP
import Derived.Test.YtnbljcbfnplbaaaBE
import Derived.Test.YtnbljcbfnplbaaaBA
namespace Go.Proofs.Ytnbljcbfnplbaaa
open Go.RowKit
set_option linter.unusedVariables false
/-- Four blocks that were made first. -/
theorem alloc4 (w : World) (o1 o2 o3 o4 : Obj) : (((((w.alloc o1).alloc o2).alloc o3).alloc o4).heap[w.heap.size]? = some o1 ∧ ((((w.alloc o1).alloc o2).alloc o3).alloc o4).heap[w.heap.size + 1]? = some o2 ∧
    ((((w.alloc o1).alloc o2).alloc o3).alloc o4).heap[w.heap.size + 2]? = some o3 ∧ ((((w.alloc o1).alloc o2).alloc o3).alloc o4).heap[w.heap.size + 3]? = some o4) ∧ ((((w.alloc o1).alloc o2).alloc o3).alloc o4).heap.size = w.heap.size + 4 ∧ Below w.heap.size w ((((w.alloc o1).alloc o2).alloc o3).alloc o4) := by
  obtain ⟨⟨h1, h2, h3⟩, hs, hb⟩ := alloc3 w o1 o2 o3
  have h4 := blk_new (((w.alloc o1).alloc o2).alloc o3) o4
  rw [hs] at h4
  exact ⟨⟨blk_alloc h1 o4, blk_alloc h2 o4, blk_alloc h3 o4, h4⟩, by simp, hb.alloc hb.size o4⟩
set_option maxRecDepth 100000 in
set_option maxHeartbeats 6400000 in
theorem vaultLasts_walk (t v bb bt : Int) (a : Option Addr) (cap : Nat) (l : List En) (t' v' bb' bt' : Int) (a' : Option Addr) (cap' : Nat) (m : List En) (a4 : Option Addr) (cap4 : Nat) (ns : List Int) (w : World) (hl : LogIn w a cap l) (hlw : ∀ e ∈ l, EnWf e) (hm : LogIn w a' cap' m) (hmw : ∀ e ∈ m, EnWf e) (hn : IntsIn w a4 cap4 ns) :
    Calls Try.prog 3 #[ballotV t v, logV bb bt a l.length cap, ballotV t' v', logV bb' bt' a' m.length cap', .slice a4 ns.length cap4] w fun e w' => e = .returned (.bool true) ∧ Below w.heap.size w w' := by
  by_cases h1 : (70 : Int) < (l.length : Int)
  · clear hl hm hn hlw hmw
    go_enter Try.func3, Try.ntmps3
    go_wp2_with (first
      | (go_at_call 9; refine (vaultAwake_any _).mono ?_; rintro e w1 ⟨rfl, hb1⟩; obtain ⟨⟨gb, gl, gc, gm⟩, hz0, hw0⟩ := alloc4 w (.cells #[.int .i64 t, .int .i64 v] 23) (.cells #[.int .i64 bb, .int .i64 bt, .slice a l.length cap] 26) (.cells #[.int .i64 t', .int .i64 v'] 23) (.cells #[.int .i64 bb', .int .i64 bt', .slice a' m.length cap'] 26); have hw1 := hw0.trans (hb1.mono hw0.size); have hz1 := hb1.size; replace gb := blk_keep hb1 gb; replace gl := blk_keep hb1 gl; replace gc := blk_keep hb1 gc; replace gm := blk_keep hb1 gm; obtain ⟨bc0, bc1, bcf0, bcf1, bclt⟩ := box2 gb; obtain ⟨lc0, lc1, lc2, lcf0, lcf1, lcf2, lclt⟩ := box3 gl; obtain ⟨cc0, cc1, ccf0, ccf1, cclt⟩ := box2 gc; obtain ⟨mc0, mc1, mc2, mcf0, mcf1, mcf2, mclt⟩ := box3 gm)
      | (go_at_call 10; refine (newB_any _ _ rfl).mono ?_; rintro e w2 ⟨rfl, hv, hs2, hb2⟩; have hw2 := hw1.trans (hb2.mono hw1.size); replace gb := blk_keep hb2 gb; replace gl := blk_keep hb2 gl; replace gc := blk_keep hb2 gc; replace gm := blk_keep hb2 gm; obtain ⟨bc0, bc1, bcf0, bcf1, bclt⟩ := box2 gb; obtain ⟨lc0, lc1, lc2, lcf0, lcf1, lcf2, lclt⟩ := box3 gl; obtain ⟨cc0, cc1, ccf0, ccf1, cclt⟩ := box2 gc; obtain ⟨mc0, mc1, mc2, mcf0, mcf1, mcf2, mclt⟩ := box3 gm))
    go_ret
    exact ⟨rfl, hw2⟩
  by_cases h2 : (70 : Int) < (m.length : Int)
  · clear hl hm hn hlw hmw
    go_enter Try.func3, Try.ntmps3
    go_wp2_with (first
      | (go_at_call 9; refine (vaultAwake_any _).mono ?_; rintro e w1 ⟨rfl, hb1⟩; obtain ⟨⟨gb, gl, gc, gm⟩, hz0, hw0⟩ := alloc4 w (.cells #[.int .i64 t, .int .i64 v] 23) (.cells #[.int .i64 bb, .int .i64 bt, .slice a l.length cap] 26) (.cells #[.int .i64 t', .int .i64 v'] 23) (.cells #[.int .i64 bb', .int .i64 bt', .slice a' m.length cap'] 26); have hw1 := hw0.trans (hb1.mono hw0.size); have hz1 := hb1.size; replace gb := blk_keep hb1 gb; replace gl := blk_keep hb1 gl; replace gc := blk_keep hb1 gc; replace gm := blk_keep hb1 gm; obtain ⟨bc0, bc1, bcf0, bcf1, bclt⟩ := box2 gb; obtain ⟨lc0, lc1, lc2, lcf0, lcf1, lcf2, lclt⟩ := box3 gl; obtain ⟨cc0, cc1, ccf0, ccf1, cclt⟩ := box2 gc; obtain ⟨mc0, mc1, mc2, mcf0, mcf1, mcf2, mclt⟩ := box3 gm)
      | (go_at_call 10; refine (newB_any _ _ rfl).mono ?_; rintro e w2 ⟨rfl, hv, hs2, hb2⟩; have hw2 := hw1.trans (hb2.mono hw1.size); replace gb := blk_keep hb2 gb; replace gl := blk_keep hb2 gl; replace gc := blk_keep hb2 gc; replace gm := blk_keep hb2 gm; obtain ⟨bc0, bc1, bcf0, bcf1, bclt⟩ := box2 gb; obtain ⟨lc0, lc1, lc2, lcf0, lcf1, lcf2, lclt⟩ := box3 gl; obtain ⟨cc0, cc1, ccf0, ccf1, cclt⟩ := box2 gc; obtain ⟨mc0, mc1, mc2, mcf0, mcf1, mcf2, mclt⟩ := box3 gm))
    go_ret
    exact ⟨rfl, hw2⟩
  by_cases h3 : (20 : Int) < (ns.length : Int)
  · clear hl hm hn hlw hmw
    go_enter Try.func3, Try.ntmps3
    go_wp2_with (first
      | (go_at_call 9; refine (vaultAwake_any _).mono ?_; rintro e w1 ⟨rfl, hb1⟩; obtain ⟨⟨gb, gl, gc, gm⟩, hz0, hw0⟩ := alloc4 w (.cells #[.int .i64 t, .int .i64 v] 23) (.cells #[.int .i64 bb, .int .i64 bt, .slice a l.length cap] 26) (.cells #[.int .i64 t', .int .i64 v'] 23) (.cells #[.int .i64 bb', .int .i64 bt', .slice a' m.length cap'] 26); have hw1 := hw0.trans (hb1.mono hw0.size); have hz1 := hb1.size; replace gb := blk_keep hb1 gb; replace gl := blk_keep hb1 gl; replace gc := blk_keep hb1 gc; replace gm := blk_keep hb1 gm; obtain ⟨bc0, bc1, bcf0, bcf1, bclt⟩ := box2 gb; obtain ⟨lc0, lc1, lc2, lcf0, lcf1, lcf2, lclt⟩ := box3 gl; obtain ⟨cc0, cc1, ccf0, ccf1, cclt⟩ := box2 gc; obtain ⟨mc0, mc1, mc2, mcf0, mcf1, mcf2, mclt⟩ := box3 gm)
      | (go_at_call 10; refine (newB_any _ _ rfl).mono ?_; rintro e w2 ⟨rfl, hv, hs2, hb2⟩; have hw2 := hw1.trans (hb2.mono hw1.size); replace gb := blk_keep hb2 gb; replace gl := blk_keep hb2 gl; replace gc := blk_keep hb2 gc; replace gm := blk_keep hb2 gm; obtain ⟨bc0, bc1, bcf0, bcf1, bclt⟩ := box2 gb; obtain ⟨lc0, lc1, lc2, lcf0, lcf1, lcf2, lclt⟩ := box3 gl; obtain ⟨cc0, cc1, ccf0, ccf1, cclt⟩ := box2 gc; obtain ⟨mc0, mc1, mc2, mcf0, mcf1, mcf2, mclt⟩ := box3 gm))
    go_ret
    exact ⟨rfl, hw2⟩
  have HSV : Hid (∀ W V base x, Below w.heap.size w W → VtOk x → x.1.length ≤ 65536 → VtAt W V base x → V < base → base ≤ W.heap.size → Calls Try.prog 11 #[.pointer (some ⟨V, 0, none⟩), ballotV t' v', logV bb' bt' a' m.length cap'] W fun e w' => e = .returned (.int .i64 (saveE x t' v' bb' bt' m)) ∧ VtAt w' V base (saveV x t' v' bb' bt' m) ∧ Only V W w') := fun W V base x h0 h1 h2 h3 h4 h5 => save_any V base x t' v' bb' bt' a' cap' m W h3 h4 h5 (hm.below h0) hmw h1 h2
  have HSW : Hid (∀ W V base x, Below w.heap.size w W → VtOk x → x.1.length ≤ 65536 → VtAt W V base x → V < base → base ≤ W.heap.size → Calls Try.prog 11 #[.pointer (some ⟨V, 0, none⟩), ballotV t v, logV bb bt a l.length cap] W fun e w' => e = .returned (.int .i64 (saveE x t v bb bt l)) ∧ VtAt w' V base (saveV x t v bb bt l) ∧ Only V W w') := fun W V base x h0 h1 h2 h3 h4 h5 => save_any V base x t v bb bt a cap l W h3 h4 h5 (hl.below h0) hlw h1 h2
  have hx0 := saveV_ok vt0_ok t' v' bb' bt' m
  have hx0l := saveV_le (x := vt0) (t := t') (v := v') (b := bb') (bt := bt') (l := m) (Nat.zero_le _)
  have HS1 : Hid (∀ W V base, Below w.heap.size w W → V < base → base ≤ W.heap.size → VtAt W V base vt0 → Calls Try.prog 11 #[.pointer (some ⟨V, 0, none⟩), ballotV t' v', logV bb' bt' a' m.length cap'] W fun e w' => e = .returned (.int .i64 (saveE vt0 t' v' bb' bt' m)) ∧ VtAt w' V base (saveV vt0 t' v' bb' bt' m) ∧ Only V W w') := fun W V base h0 h1 h2 h3 => HSV.out W V base vt0 h0 vt0_ok (Nat.zero_le _) h3 h1 h2
  generalize saveE vt0 t' v' bb' bt' m = E0 at HS1
  generalize saveV vt0 t' v' bb' bt' m = x0 at HS1 hx0 hx0l
  have HS2 : Hid (∀ W V base, Below w.heap.size w W → V < base → base ≤ W.heap.size → VtAt W V base x0 → Calls Try.prog 11 #[.pointer (some ⟨V, 0, none⟩), ballotV t v, logV bb bt a l.length cap] W fun e w' => e = .returned (.int .i64 (saveE x0 t v bb bt l)) ∧ VtAt w' V base (saveV x0 t v bb bt l) ∧ Only V W w') := fun W V base h0 h1 h2 h3 => HSW.out W V base x0 h0 hx0 hx0l h3 h1 h2
  by_cases hE : saveE x0 t v bb bt l = 0
  rotate_left 1
  · have hE' : (saveE x0 t v bb bt l != 0) = true := by simpa using hE
    clear hl hm hn hlw hmw HSV HSW hE hx0 hx0l
    generalize saveE x0 t v bb bt l = E1 at HS2 hE'
    generalize saveV x0 t v bb bt l = x1 at HS2
    go_enter Try.func3, Try.ntmps3
    go_wp2_with (first
      | (go_at_call 9; refine (vaultAwake_any _).mono ?_; rintro e w2 ⟨rfl, hb2⟩; obtain ⟨⟨gb, gl, gc, gm⟩, hz0, hw0⟩ := alloc4 w (.cells #[.int .i64 t, .int .i64 v] 23) (.cells #[.int .i64 bb, .int .i64 bt, .slice a l.length cap] 26) (.cells #[.int .i64 t', .int .i64 v'] 23) (.cells #[.int .i64 bb', .int .i64 bt', .slice a' m.length cap'] 26); have hw2 := hw0.trans (hb2.mono hw0.size); have hz2 : w.heap.size + 4 ≤ w2.heap.size := (by rw [← hz0]; exact hb2.size); replace gb := blk_keep hb2 gb; replace gl := blk_keep hb2 gl; replace gc := blk_keep hb2 gc; replace gm := blk_keep hb2 gm; obtain ⟨bc0, bc1, bcf0, bcf1, bclt⟩ := box2 gb; obtain ⟨lc0, lc1, lc2, lcf0, lcf1, lcf2, lclt⟩ := box3 gl; obtain ⟨cc0, cc1, ccf0, ccf1, cclt⟩ := box2 gc; obtain ⟨mc0, mc1, mc2, mcf0, mcf1, mcf2, mclt⟩ := box3 gm)
      | (go_at_call 10; refine (newB_any _ _ rfl).mono ?_; rintro e w3 ⟨rfl, hv0, hs3, hb3⟩; have hw3 := hw2.trans (hb3.mono hw2.size); replace gb := blk_keep hb3 gb; replace gl := blk_keep hb3 gl; replace gc := blk_keep hb3 gc; replace gm := blk_keep hb3 gm; obtain ⟨bc0, bc1, bcf0, bcf1, bclt⟩ := box2 gb; obtain ⟨lc0, lc1, lc2, lcf0, lcf1, lcf2, lclt⟩ := box3 gl; obtain ⟨cc0, cc1, ccf0, ccf1, cclt⟩ := box2 gc; obtain ⟨mc0, mc1, mc2, mcf0, mcf1, mcf2, mclt⟩ := box3 gm; clear hb3; generalize hV : w2.heap.size = V at *; have hv := hv0 (V + 1); clear hv0; have hz3 : V + 1 ≤ w3.heap.size := Nat.le_of_eq hs3.symm)
      | (go_at_call 11; refine (HS2.out _ V (V + 1) hw4 (by omega) hz4 hv).mono ?_; rintro e w5 ⟨rfl, hv5, hO5⟩; have hw5 := hO5.below hw4 (by omega) (by omega); have hz5 : V + 1 ≤ w5.heap.size := Nat.le_trans hz4 hO5.size; replace hv := hv5; clear hv5; replace gb := hO5.keep gb (by omega); replace gl := hO5.keep gl (by omega); replace gc := hO5.keep gc (by omega); replace gm := hO5.keep gm (by omega); obtain ⟨bc0, bc1, bcf0, bcf1, bclt⟩ := box2 gb; obtain ⟨lc0, lc1, lc2, lcf0, lcf1, lcf2, lclt⟩ := box3 gl; obtain ⟨cc0, cc1, ccf0, ccf1, cclt⟩ := box2 gc; obtain ⟨mc0, mc1, mc2, mcf0, mcf1, mcf2, mclt⟩ := box3 gm)
      | (go_at_call 11; refine (HS1.out _ V (V + 1) hw3 (by omega) hz3 hv).mono ?_; rintro e w4 ⟨rfl, hv4, hO4⟩; have hw4 := hO4.below hw3 (by omega) (by omega); have hz4 : V + 1 ≤ w4.heap.size := Nat.le_trans hz3 hO4.size; replace hv := hv4; clear hv4; replace gb := hO4.keep gb (by omega); replace gl := hO4.keep gl (by omega); replace gc := hO4.keep gc (by omega); replace gm := hO4.keep gm (by omega); obtain ⟨bc0, bc1, bcf0, bcf1, bclt⟩ := box2 gb; obtain ⟨lc0, lc1, lc2, lcf0, lcf1, lcf2, lclt⟩ := box3 gl; obtain ⟨cc0, cc1, ccf0, ccf1, cclt⟩ := box2 gc; obtain ⟨mc0, mc1, mc2, mcf0, mcf1, mcf2, mclt⟩ := box3 gm))
    go_ret
    exact ⟨rfl, hw5⟩
  obtain ⟨_, _, rfl, rfl, hm0, _, _⟩ := saveE_zero hE
  have hx1 := saveV_ok hx0 t v 0 0 l
  have hx1l := saveV_le (x := x0) (t := t) (v := v) (b := 0) (bt := 0) (l := l) hx0l
  have hx1e := saveV_eq hE
  rw [hE] at HS2
  have h64 := (mayL_true hm0).2.2.2.2.2.1
  have HSY : Hid (∀ W V base, VtAt W V base (saveV x0 t v 0 0 l) → V < base → Calls Try.prog 12 #[.pointer (some ⟨V, 0, none⟩)] W fun e w' => e = .returned (.tuple #[]) ∧ VtAt w' V base (syncV (saveV x0 t v 0 0 l)) ∧ Only V W w') := fun W V base h1 h2 => sync_any V base _ W h1 h2
  have HCR : Hid (∀ W V base k, VtAt W V base (syncV (saveV x0 t v 0 0 l)) → V < base → base ≤ W.heap.size → Calls Try.prog 13 #[.pointer (some ⟨V, 0, none⟩), .int .i64 k] W fun e w' => e = .returned (.tuple #[]) ∧ VtAt w' V base (syncV (saveV x0 t v 0 0 l)) ∧ Only V W w') := fun W V base k h1 h2 h3 => by
    have := crash_any V base _ k W h1 h2 h3 (syncV_ok hx1) (Nat.le_trans hx1l (by omega))
    rwa [crash_synced (syncV_ok hx1) rfl k] at this
  have HLD : Hid (∀ W V base, VtAt W V base (syncV (saveV x0 t v 0 0 l)) → V < base → Calls Try.prog 14 #[.pointer (some ⟨V, 0, none⟩)] W (RetLoad (t, v, l) W)) := fun W V base h1 h2 => by
    have e : (syncV (saveV x0 t v 0 0 l)).2.2 = (t, v, l) := by show (saveV x0 t v 0 0 l).2.2 = _; rw [hx1e]
    have := load_any V base _ W h1 h2 (by rw [e]; show l.length ≤ _; omega)
    rwa [e] at this
  have HLG : Hid (∀ W a1 c1, Below w.heap.size w W → LogIn W a1 c1 l → Calls Try.prog 15 #[logV 0 0 a1 l.length c1, logV 0 0 a l.length cap] W fun e w' => e = .returned (.bool true) ∧ Below W.heap.size W w') := fun W a1 c1 h h' => by
    have := logs_any 0 0 a1 c1 l 0 0 a cap l W h' (hl.below h)
    rwa [show (decide (l = l) && (0 : Int) == 0 && (0 : Int) == 0) = true by simp] at this
  generalize saveV x0 t v 0 0 l = x1 at HS2 HSY HCR HLD
  generalize syncV x1 = x2 at HSY HCR HLD
  have HNI := Lib.hid hn
  have hlen : (ns.length : Int) ≤ 20 := by omega
  clear hl hm hn hlw hmw HSV HSW hE hx0 hx0l hx1 hx1l hx1e hm0
  go_enter Try.func3, Try.ntmps3
  go_wp2_with (first
    | (go_at_call 9; refine (vaultAwake_any _).mono ?_; rintro e w2 ⟨rfl, hb2⟩; obtain ⟨⟨gb, gl, gc, gm⟩, hz0, hw0⟩ := alloc4 w (.cells #[.int .i64 t, .int .i64 v] 23) (.cells #[.int .i64 0, .int .i64 0, .slice a l.length cap] 26) (.cells #[.int .i64 t', .int .i64 v'] 23) (.cells #[.int .i64 bb', .int .i64 bt', .slice a' m.length cap'] 26); have hw2 := hw0.trans (hb2.mono hw0.size); have hz2 : w.heap.size + 4 ≤ w2.heap.size := (by rw [← hz0]; exact hb2.size); replace gb := blk_keep hb2 gb; replace gl := blk_keep hb2 gl; replace gc := blk_keep hb2 gc; replace gm := blk_keep hb2 gm; obtain ⟨bc0, bc1, bcf0, bcf1, bclt⟩ := box2 gb; obtain ⟨lc0, lc1, lc2, lcf0, lcf1, lcf2, lclt⟩ := box3 gl; obtain ⟨cc0, cc1, ccf0, ccf1, cclt⟩ := box2 gc; obtain ⟨mc0, mc1, mc2, mcf0, mcf1, mcf2, mclt⟩ := box3 gm)
    | (go_at_call 10; refine (newB_any _ _ rfl).mono ?_; rintro e w3 ⟨rfl, hv0, hs3, hb3⟩; have hw3 := hw2.trans (hb3.mono hw2.size); replace gb := blk_keep hb3 gb; replace gl := blk_keep hb3 gl; replace gc := blk_keep hb3 gc; replace gm := blk_keep hb3 gm; obtain ⟨bc0, bc1, bcf0, bcf1, bclt⟩ := box2 gb; obtain ⟨lc0, lc1, lc2, lcf0, lcf1, lcf2, lclt⟩ := box3 gl; obtain ⟨cc0, cc1, ccf0, ccf1, cclt⟩ := box2 gc; obtain ⟨mc0, mc1, mc2, mcf0, mcf1, mcf2, mclt⟩ := box3 gm; clear hb3; generalize hV : w2.heap.size = V at *; have hv := hv0 (V + 1); clear hv0; have hz3 : V + 1 ≤ w3.heap.size := Nat.le_of_eq hs3.symm)
    | (go_at_call 12; refine (HSY.out _ V (V + 1) hv (by omega)).mono ?_; rintro e w6 ⟨rfl, hv6, hO6⟩; have hw6 := hO6.below hw5 (by omega) (by omega); have hz6 : V + 1 ≤ w6.heap.size := Nat.le_trans hz5 hO6.size; replace hv := hv6; clear hv6; replace gb := hO6.keep gb (by omega); replace gl := hO6.keep gl (by omega); obtain ⟨bc0, bc1, bcf0, bcf1, bclt⟩ := box2 gb; obtain ⟨lc0, lc1, lc2, lcf0, lcf1, lcf2, lclt⟩ := box3 gl)
    | (go_at_call 11; refine (HS2.out _ V (V + 1) hw4 (by omega) hz4 hv).mono ?_; rintro e w5 ⟨rfl, hv5, hO5⟩; have hw5 := hO5.below hw4 (by omega) (by omega); have hz5 : V + 1 ≤ w5.heap.size := Nat.le_trans hz4 hO5.size; replace hv := hv5; clear hv5; replace gb := hO5.keep gb (by omega); replace gl := hO5.keep gl (by omega); replace gc := hO5.keep gc (by omega); replace gm := hO5.keep gm (by omega); obtain ⟨bc0, bc1, bcf0, bcf1, bclt⟩ := box2 gb; obtain ⟨lc0, lc1, lc2, lcf0, lcf1, lcf2, lclt⟩ := box3 gl; obtain ⟨cc0, cc1, ccf0, ccf1, cclt⟩ := box2 gc; obtain ⟨mc0, mc1, mc2, mcf0, mcf1, mcf2, mclt⟩ := box3 gm)
    | (go_at_call 11; refine (HS1.out _ V (V + 1) hw3 (by omega) hz3 hv).mono ?_; rintro e w4 ⟨rfl, hv4, hO4⟩; have hw4 := hO4.below hw3 (by omega) (by omega); have hz4 : V + 1 ≤ w4.heap.size := Nat.le_trans hz3 hO4.size; replace hv := hv4; clear hv4; replace gb := hO4.keep gb (by omega); replace gl := hO4.keep gl (by omega); replace gc := hO4.keep gc (by omega); replace gm := hO4.keep gm (by omega); obtain ⟨bc0, bc1, bcf0, bcf1, bclt⟩ := box2 gb; obtain ⟨lc0, lc1, lc2, lcf0, lcf1, lcf2, lclt⟩ := box3 gl; obtain ⟨cc0, cc1, ccf0, ccf1, cclt⟩ := box2 gc; obtain ⟨mc0, mc1, mc2, mcf0, mcf1, mcf2, mclt⟩ := box3 gm))
  go_loopw [13] (fun i wr => ∃ k : Nat, k ≤ ns.length ∧ i = .int .i64 k ∧ VtAt wr V (V + 1) x2 ∧ V + 1 ≤ wr.heap.size ∧ Below w.heap.size w wr ∧ wr.heap[w.heap.size]? = some (.cells #[.int .i64 t, .int .i64 v] 23) ∧ wr.heap[w.heap.size + 1]? = some (.cells #[.int .i64 0, .int .i64 0, .slice a l.length cap] 26)) (fun i _ => ns.length - (intOf i).toNat)
  case atStart => exact ⟨0, by omega, rfl, hv, hz6, hw6, gb, gl⟩
  case round =>
    clear hv hz6 hw6 gb gl hO4 hO5 hO6 bc0 bc1 lc0 lc1 lc2
    obtain ⟨k, hk, rfl, hv, hz6, hw6, gb, gl⟩ := hrel
    obtain ⟨bc0, bc1, bcf0, bcf1, bclt⟩ := box2 gb
    obtain ⟨lc0, lc1, lc2, lcf0, lcf1, lcf2, lclt⟩ := box3 gl
    by_cases hlt : k < ns.length
    · obtain ⟨nb, noff, rfl, nlt, nc⟩ := CellsI.at (CellsI.below HNI.out.cells hw6) hlt
      generalize (ns[k]'hlt) = z at nc
      have hk0 : (0 : Int) ≤ (k : Int) := by omega
      have hk1 : (k : Int) < (ns.length : Int) := by omega
      go_wp2_with (go_at_call 13; refine (HCR.out _ V (V + 1) z hv (by omega) hz6).mono ?_; rintro e w7 ⟨rfl, hv7, hO7⟩; have hw7 := hO7.below hw6 (by omega) (by omega); have hz7 := Nat.le_trans hz6 hO7.size; have gb7 := hO7.keep gb (by omega); have gl7 := hO7.keep gl (by omega))
      go_roundw
      case rel => exact ⟨k + 1, by omega, by go_num, hv7, hz7, hw7, gb7, gl7⟩
      case measure => simp [intOf]; omega
    · have hek : k = ns.length := by omega
      have hk1 : ¬ (k : Int) < (ns.length : Int) := by omega
      go_wp2_with (first
        | (go_at_call 14; refine (HLD.out _ V (V + 1) hv (by omega)).mono ?_; rintro e w8 ⟨a8, c8, rfl, own8, hb8⟩; simp only at own8; have hw8 := hw6.trans (hb8.mono hw6.size); have hl8 := (LogIn.of_own own8).below (below2 w8 (.cells #[.int .i64 t, .int .i64 v] 23) (.cells #[.int .i64 0, .int .i64 0, .slice a8 l.length c8] 26)); have gb8 := blk_keep hb8 gb; have gl8 := blk_keep hb8 gl; obtain ⟨bc0, bc1, bcf0, bcf1, bclt⟩ := box2 gb8; obtain ⟨lc0, lc1, lc2, lcf0, lcf1, lcf2, lclt⟩ := box3 gl8)
        | (go_at_call 15; refine (HLG.out _ _ _ (hw8.trans ((below2 w8 _ _).mono hw8.size)) hl8).mono ?_; rintro e w9 ⟨rfl, hb9⟩; have gb9 := blk_keep hb9 (blk_keep (below2 w8 (.cells #[.int .i64 t, .int .i64 v] 23) (.cells #[.int .i64 0, .int .i64 0, .slice a8 l.length c8] 26)) gb8); have gx9 := blk_keep hb9 (alloc2_fst w8 (.cells #[.int .i64 t, .int .i64 v] 23) (.cells #[.int .i64 0, .int .i64 0, .slice a8 l.length c8] 26)); obtain ⟨bc0, bc1, bcf0, bcf1, bclt⟩ := box2 gb9; obtain ⟨xc0, xc1, xcf0, xcf1, xclt⟩ := box2 gx9))
      go_ret
      exact ⟨ret_bool (by simp), (hw8.trans ((below2 w8 _ _).mono hw8.size)).trans (hb9.mono (hw8.trans ((below2 w8 _ _).mono hw8.size)).size)⟩
end Go.Proofs.Ytnbljcbfnplbaaa
