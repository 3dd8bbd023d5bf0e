/-
  What a member says to who is to vote.
-/
import Derived.Test.YtlejbhgginolgaaRaftD
namespace Go.Proofs.Ytlejbhgginolgaa
open Go.RowKit
set_option linter.unusedVariables false
section
variable {w : World} {b : Nat} {a : MA} {m : Mb}
set_option maxRecDepth 100000 in
set_option maxHeartbeats 3200000 in
theorem ask_at (h : MAt w b a m) (Q : Nat) (hQ : w.heap[Q]? = some (.cells #[.pointer (some ⟨b, 0, none⟩)] 28)) (k : Int) : Calls Try.prog 28 #[.int .i64 k, .pointer (some ⟨Q, 0, none⟩)] w (RetM (m.ask k) w) := by
  have HS : Hid (∀ W, Below w.heap.size w W → Calls Try.prog 29 #[.pointer (some ⟨b, 0, none⟩), .int .i64 0, .int .i64 k] W fun e w' => e = .returned (.agg #[.int .i64 0, .int .i64 m.id, .int .i64 k, .int .i64 m.term, .int .i64 0, .int .i64 0, .int .i64 0, .bool false, .slice none 0 0]) ∧ Below W.heap.size W w') := fun W hW => say_any (h.below hW) 0 k
  have HL : Hid (∀ W, Below w.heap.size w W → Calls Try.prog 21 #[logV 0 0 a.la m.log.length a.lc] W fun e w' => e = .returned (.tuple #[.int .i64 (lastF 0 0 m.log).1, .int .i64 (lastF 0 0 m.log).2]) ∧ Below W.heap.size W w') := fun W hW => last_any 0 0 a.la a.lc m.log W (LogIn.of_own (own_below h.log hW))
  have HX : Hid (m.ask k = ⟨0, m.id, k, m.term, (lastF 0 0 m.log).1, (lastF 0 0 m.log).2, 0, false, []⟩) := rfl
  have HO := Lib.hid h
  have HQ := Lib.hid hQ
  generalize lastF 0 0 m.log = L at HL HX
  obtain ⟨L1, L2⟩ := L
  simp only at HL HX
  have hal := below1 w (.cells #[.int .i64 0, .int .i64 0, .int .i64 0, .int .i64 0, .int .i64 0, .int .i64 0, .int .i64 0, .bool false, .slice none 0 0] 37)
  have g0 := blk_new w (.cells #[.int .i64 0, .int .i64 0, .int .i64 0, .int .i64 0, .int .i64 0, .int .i64 0, .int .i64 0, .bool false, .slice none 0 0] 37)
  have hq0 : (w.alloc (.cells #[.int .i64 0, .int .i64 0, .int .i64 0, .int .i64 0, .int .i64 0, .int .i64 0, .int .i64 0, .bool false, .slice none 0 0] 37)).cell? ⟨Q, 0, none⟩ = some (.pointer (some ⟨b, 0, none⟩)) := blk_cell (blk_keep hal hQ) 0
  have hqlt := blk_lt hQ
  clear hQ
  go_enter Try.func28, Try.ntmps28
  go_wp2_with (go_at_call 29; refine (HS.out _ hal).mono ?_; rintro e w1 ⟨rfl, hb1⟩; have hw1 := hal.trans (hb1.mono hal.size); have G0 := blk_keep hb1 g0; have hwA := hw1.trans ((below1 w1 (.cells #[.int .i64 0, .int .i64 m.id, .int .i64 k, .int .i64 m.term, .int .i64 0, .int .i64 0, .int .i64 0, .bool false, .slice none 0 0] 37)).mono hw1.size); have H1 := HO.out.below hwA; have q1 := blk_cell (blk_keep hwA HQ.out) 0; obtain ⟨c0, c1, c2, c3, c4, c5, c6, c7, c8, c9, hlt⟩ := box10 H1.blk)
  go_at_call 21
  refine (HL.out _ hwA).mono ?_
  rintro e w2 ⟨rfl, hb2⟩
  have hw2 := hwA.trans (hb2.mono hwA.size)
  have G02 := blk_keep hb2 (blk_alloc G0 _)
  have G2 := blk_keep hb2 (blk_new w1 _)
  obtain ⟨fr0, fr1, fr2, fr3, fr4, fr5, fr6, fr7, fr8, fr9⟩ := fro9 G2
  obtain ⟨x0, x1, x2, x3, x4, x5, x6, x7, x8⟩ := box9 G2
  obtain ⟨fs0, fs1, fs2, fs3, fs4, fs5, fs6, fs7, fs8, fs9⟩ := fro9 G02
  obtain ⟨y0, y1, y2, y3, y4, y5, y6, y7, y8⟩ := box9 G02
  have flt := blk_lt G2
  have flt0 := blk_lt G02
  clear c0 c1 c2 c3 c4 c5 c6 c7 c8 c9 hlt q1 hq0
  have hF := blk_lt G0
  have hFne : w.heap.size ≠ w1.heap.size := by omega
  go_wp2
  obtain ⟨k0, k1, k2, k3, k4, k5, k6, k7, k8⟩ := box9 (set9_blk (blk_far (i := 5) (G := w1.heap.size) (blk_far (i := 4) (G := w1.heap.size) G02 (by omega) (.int .i64 L1)) (by omega) (.int .i64 L2)) (.int .i64 0) (.int .i64 m.id) (.int .i64 k) (.int .i64 m.term) (.int .i64 L1) (.int .i64 L2) (.int .i64 0) (.bool false) (.slice none 0 0))
  refine bodyPost_ret (v := .agg #[.int .i64 0, .int .i64 m.id, .int .i64 k, .int .i64 m.term, .int .i64 L1, .int .i64 L2, .int .i64 0, .bool false, .slice none 0 0]) (by simp [results, Try.results28, go_sem, k0, k1, k2, k3, k4, k5, k6, k7, k8]) rfl ?_
  rw [HX.out]
  exact ⟨none, 0, rfl, World.ownsRow_nil _ _ _ _, set9_below ((hw2.setCell (p := ⟨w1.heap.size, 4, none⟩) (by show w.heap.size ≤ w1.heap.size; omega) _).setCell (p := ⟨w1.heap.size, 5, none⟩) (by show w.heap.size ≤ w1.heap.size; omega) _) (Nat.le_refl _) _ _ _ _ _ _ _ _ _⟩
end
end Go.Proofs.Ytlejbhgginolgaa
