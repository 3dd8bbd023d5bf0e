/-
  Bc: several texts in one.
-/
import Derived.Test.YthjdbmfobmnnlaaGreatBb
import Derived.Test.YthjdbmfobmnnlaaGreatBa
/-
  Layer 4: the last entry.
-/
namespace Go.Proofs.YthjdbmfobmnnlaaGreat
open Go.RowKit
set_option linter.unusedVariables false
/-- The last entry's index and term. -/
def lastF (b t : Int) (es : List En) : Int × Int := ((fairL b t es).1 + (fairL b t es).2.2.length, endT (fairL b t es).2.2 (fairL b t es).2.1)
theorem termF_last (b t : Int) (es : List En) : termF (fairL b t es).1 (fairL b t es).2.1 (fairL b t es).2.2 ((fairL b t es).1 + (fairL b t es).2.2.length) = ((lastF b t es).2, true) := by
  unfold termF
  rw [fairL_yes (fairL_may b t es), termL_at (fairL b t es).2.2.length (Nat.le_refl _) rfl, List.take_length]
  rfl
set_option maxHeartbeats 1600000 in
theorem last_any (b t : Int) (a : Option Addr) (cap : Nat) (es : List En) (w : World) (hl : LogIn w a cap es) :
    Calls Tryz.prog 9 #[logV b t a es.length cap] w fun e w' => e = .returned (.tuple #[.int .i64 (lastF b t es).1, .int .i64 (lastF b t es).2]) ∧ Below w.heap.size w w' := by
  have HM : Hid (∀ W, Below w.heap.size w W → Calls Tryz.prog 35 #[logV b t a es.length cap] W fun e w' => e = .returned (logV (fairL b t es).1 (fairL b t es).2.1 (fairA b t es a cap).1 (fairL b t es).2.2.length (fairA b t es a cap).2) ∧ Below W.heap.size W w') := fun W h => fair_any b t a cap es W (hl.below h)
  have hmay := fairL_may b t es
  have hlf := hl.fair b t
  have HT : Hid (∀ W, LogIn W (fairA b t es a cap).1 (fairA b t es a cap).2 (fairL b t es).2.2 → Calls Tryz.prog 36 #[logV (fairL b t es).1 (fairL b t es).2.1 (fairA b t es a cap).1 (fairL b t es).2.2.length (fairA b t es a cap).2, .int .i64 ((fairL b t es).1 + (fairL b t es).2.2.length)] W fun e w' => e = .returned (.tuple #[.int .i64 (lastF b t es).2, .bool true]) ∧ Below W.heap.size W w') := fun W h => by
    have := term_any (fairL b t es).1 (fairL b t es).2.1 (fairA b t es a cap).1 (fairA b t es a cap).2 (fairL b t es).2.2 ((fairL b t es).1 + (fairL b t es).2.2.length) W h
    rw [termF_last] at this
    exact this
  have HI : Hid ((lastF b t es).1 = (fairL b t es).1 + (fairL b t es).2.2.length) := rfl
  clear hl
  generalize lastF b t es = L at HT HI
  obtain ⟨L1, L2⟩ := L
  generalize fairA b t es a cap = A at HM hlf HT
  generalize fairL b t es = l at HM hmay hlf HT HI
  obtain ⟨B, T, l⟩ := l
  obtain ⟨a', cap'⟩ := A
  simp only at HM hmay hlf HT HI ⊢
  obtain rfl := HI.out
  obtain ⟨h1, h2, _, _, _, h6, hx⟩ := mayL_true hmay
  have h6' : (l.length : Int) ≤ 64 := by omega
  clear hmay hx HI
  have hlW : Hid (∀ W, Below w.heap.size w W → LogIn W a' cap' l) := fun W h => hlf.below h
  go_enter Tryz.func9, Tryz.ntmps9
  go_wp2_with (first
    | (go_at_call 35; refine (HM.out _ (below1 _ _)).mono ?_; rintro e w1 ⟨rfl, hb1⟩; have hF := blk_keep hb1 (blk_new _ _); obtain ⟨hc0, hc1, hc2, hf0, hf1, hf2, hlt⟩ := box3 hF; have hb2 := set3_below (alloc_below hb1) (Nat.le_refl _) (.int .i64 B) (.int .i64 T) (.slice a' l.length cap'))
    | (go_at_call 36; refine (HT.out _ (hlW.out _ hb2)).mono ?_; rintro e w3 ⟨rfl, hb3⟩))
  go_ret2
  exact ⟨rfl, bt hb2 hb3⟩
end Go.Proofs.YthjdbmfobmnnlaaGreat

/-
  Layer 4, the document's answer: rising terms, which log may be.
-/
namespace Go.Proofs.YthjdbmfobmnnlaaGreat
open Go.RowKit
set_option linter.unusedVariables false
end Go.Proofs.YthjdbmfobmnnlaaGreat

/-
  Layer 4, the document's answer: a log that may be, the term of an index.
-/
namespace Go.Proofs.YthjdbmfobmnnlaaGreat
open Go.RowKit
set_option linter.unusedVariables false
end Go.Proofs.YthjdbmfobmnnlaaGreat

/-
  Layer 4: which log is newer.
-/
namespace Go.Proofs.YthjdbmfobmnnlaaGreat
open Go.RowKit
set_option linter.unusedVariables false
theorem newer_any (i t k u : Int) (w : World) :
    Calls Tryz.prog 11 #[.int .i64 i, .int .i64 t, .int .i64 k, .int .i64 u] w fun e w' => e = .returned (.bool (newerB i t k u)) ∧ w' = w := by
  unfold newerB
  by_cases h : t = u
  · subst h
    go_enter Tryz.func11, Tryz.ntmps11
    go_wp2
    go_ret
    refine ⟨?_, rfl⟩
    simp
  · have h1 : (t != u) = true := by simpa using h
    have h2 : Hid (decide (t > u ∨ t = u ∧ i ≥ k) = decide (u < t)) := by rw [Hid]; apply decide_eq_decide.2; omega
    clear h
    rw [h2.out]
    clear h2
    go_enter Tryz.func11, Tryz.ntmps11
    go_wp2
    go_ret
    exact ⟨rfl, rfl⟩
end Go.Proofs.YthjdbmfobmnnlaaGreat
