/-
  Layer 8's laws: VaultReads.
-/
import Derived.Test.YtnbljcbfnplbaaaVaultW
import Derived.Test.YtnbljcbfnplbaaaVaultP
import Derived.Test.YtnbljcbfnplbaaaBE
namespace Go.Proofs.Ytnbljcbfnplbaaa
open Go.RowKit
set_option linter.unusedVariables false
set_option maxRecDepth 100000 in
set_option maxHeartbeats 6400000 in
theorem vaultReads_walk (a : Option Addr) (cap : Nat) (bs : List UInt8) (w : World) (hb : BytesIn w a cap bs) :
    Calls Try.prog 7 #[.slice a bs.length cap] w fun e w' => e = .returned (.bool true) ∧ Below w.heap.size w w' := by
  by_cases h1 : (8000 : Int) < (bs.length : Int)
  · clear hb
    go_enter Try.func7, Try.ntmps7
    go_wp2_with (go_at_call 9; refine (vaultAwake_any _).mono ?_; rintro e w2 ⟨rfl, hb2⟩)
    go_ret
    exact ⟨rfl, hb2⟩
  have hok := readV_ok bs
  have HR : Hid (∀ W, Below w.heap.size w W → Calls Try.prog 22 #[.slice a bs.length cap] W (RetReadP (readV bs) W)) := fun W h => readP_any a cap bs W (hb.cells.below h) hb.cap (by omega)
  have HQ : Hid (∀ W, Below w.heap.size w W → Calls Try.prog 23 #[.slice a bs.length cap] W (RetReadR (readV bs) W)) := fun W h => refRead_any a cap bs W (hb.cells.below h) hb.none_ hb.cap (by omega)
  clear hb
  generalize readV bs = r at HR HQ hok
  obtain ⟨⟨t, v, es⟩, k⟩ := r
  have HLG : Hid (∀ W a1 c1 a2 c2, LogIn W a1 c1 es → LogIn W a2 c2 es → Calls Try.prog 15 #[logV 0 0 a1 es.length c1, logV 0 0 a2 es.length c2] W fun e w' => e = .returned (.bool true) ∧ Below W.heap.size W w') := fun W a1 c1 a2 c2 h h' => by
    have := logs_any 0 0 a1 c1 es 0 0 a2 c2 es W h h'
    rwa [show (decide (es = es) && (0 : Int) == 0 && (0 : Int) == 0) = true by simp] at this
  have HMY : Hid (∀ W a1 c1, LogIn W a1 c1 es → Calls Try.prog 24 #[logV 0 0 a1 es.length c1] W fun e w' => e = .returned (.bool true) ∧ Below W.heap.size W w') := fun W a1 c1 h => by
    have := may_any 0 0 a1 c1 es W h
    rwa [hok.2] at this
  clear hok
  have e1 : (t == t) = true := by simp
  have e2 : (v == v) = true := by simp
  have e3 : ((k : Int) == (k : Int)) = true := by simp
  go_enter Try.func7, Try.ntmps7
  go_wp2_with (first
    | (go_at_call 9; refine (vaultAwake_any _).mono ?_; rintro e w2 ⟨rfl, hw2⟩)
    | (go_at_call 22; refine (HR.out _ hw2).mono ?_; rintro e w3 ⟨a3, c3, rfl, own3, hb3⟩; simp only at own3; have hx3 := below2 w3 (.cells #[.int .i64 t, .int .i64 v] 23) (.cells #[.int .i64 0, .int .i64 0, .slice a3 es.length c3] 26); have hw3 := hw2.trans (hb3.mono hw2.size); have hw3' := hw3.trans (hx3.mono hw3.size); have hl3 := (LogIn.of_own own3).below hx3; have ga := alloc2_fst w3 (.cells #[.int .i64 t, .int .i64 v] 23) (.cells #[.int .i64 0, .int .i64 0, .slice a3 es.length c3] 26); have gb := alloc2_snd w3 (.cells #[.int .i64 t, .int .i64 v] 23) (.cells #[.int .i64 0, .int .i64 0, .slice a3 es.length c3] 26))
    | (go_at_call 23; refine (HQ.out _ hw3').mono ?_; rintro e w4 ⟨a4, c4, rfl, hl4, hf4, hb4⟩; simp only at hl4; have hx4 := below2 w4 (.cells #[.int .i64 t, .int .i64 v] 23) (.cells #[.int .i64 0, .int .i64 0, .slice a4 es.length c4] 26); have hbx := hb4.trans (hx4.mono hb4.size); have hw4 := hw3'.trans (hbx.mono hw3'.size); have hl34 := hl3.below hbx; have hl44 := hl4.below hx4; have gc := alloc2_fst w4 (.cells #[.int .i64 t, .int .i64 v] 23) (.cells #[.int .i64 0, .int .i64 0, .slice a4 es.length c4] 26); have gd := alloc2_snd w4 (.cells #[.int .i64 t, .int .i64 v] 23) (.cells #[.int .i64 0, .int .i64 0, .slice a4 es.length c4] 26); replace ga := blk_keep hbx ga; replace gb := blk_keep hbx gb; obtain ⟨ac0, ac1, _, _, alt⟩ := box2 (blk_keep hb4 (alloc2_fst w3 (.cells #[.int .i64 t, .int .i64 v] 23) (.cells #[.int .i64 0, .int .i64 0, .slice a3 es.length c3] 26))); obtain ⟨bc0, bc1, bc2, _, _, _, blt⟩ := box3 (blk_keep hb4 (alloc2_snd w3 (.cells #[.int .i64 t, .int .i64 v] 23) (.cells #[.int .i64 0, .int .i64 0, .slice a3 es.length c3] 26))))
    | (go_at_call 15; refine (HLG.out _ _ _ _ _ hl34 hl44).mono ?_; rintro e w5 ⟨rfl, hb5⟩; have hw5 := hw4.trans (hb5.mono hw4.size); obtain ⟨ac0, ac1, _, _, alt⟩ := box2 (blk_keep hb5 ga); obtain ⟨bc0, bc1, bc2, _, _, _, blt⟩ := box3 (blk_keep hb5 gb); obtain ⟨cc0, cc1, _, _, clt⟩ := box2 (blk_keep hb5 gc); have hl35 := hl34.below hb5)
    | (go_at_call 24; refine (HMY.out _ _ _ hl35).mono ?_; rintro e w6 ⟨rfl, hb6⟩))
  go_ret
  exact ⟨rfl, hw5.trans (hb6.mono hw5.size)⟩
end Go.Proofs.Ytnbljcbfnplbaaa
