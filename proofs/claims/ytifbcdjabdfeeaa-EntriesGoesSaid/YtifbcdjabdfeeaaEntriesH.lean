/-
  Layer 4, the document's answer: the last entry.
-/
import Derived.Test.YtifbcdjabdfeeaaEntriesG
namespace Go.Proofs.Ytifbcdjabdfeeaa
open Go.RowKit
set_option linter.unusedVariables false
set_option maxHeartbeats 1600000 in
theorem refLast_any (b t : Int) (a : Option Addr) (cap : Nat) (es : List En) (w : World) (hl : LogIn w a cap es) :
    Calls Try.prog 33 #[logV b t a es.length cap] w fun e w' => e = .returned (.tuple #[.int .i64 (lastF b t es).1, .int .i64 (lastF b t es).2]) ∧ Below w.heap.size w w' := by
  have HM : Hid (∀ W, Below w.heap.size w W → Calls Try.prog 47 #[logV b t a es.length cap] W fun e w' => e = .returned (logV (fairL b t es).1 (fairL b t es).2.1 (fairA b t es a cap).1 (fairL b t es).2.2.length (fairA b t es a cap).2) ∧ Below W.heap.size W w') := fun W h => refFair_any b t a cap es W (hl.below h)
  have hmay := fairL_may b t es
  have hlf := hl.fair b t
  unfold lastF
  clear hl
  generalize fairA b t es a cap = A at HM hlf
  generalize fairL b t es = l at HM hmay hlf
  obtain ⟨B, T, l⟩ := l
  obtain ⟨a', cap'⟩ := A
  simp only at HM hmay hlf ⊢
  obtain ⟨h1, h2, _, _, _, h6, hx⟩ := mayL_true hmay
  have h6' : (l.length : Int) ≤ 64 := by omega
  clear hmay hx
  by_cases h0 : l = []
  · subst h0
    rw [endT_nil]
    go_enter Try.func33, Try.ntmps33
    go_wp2_with (go_at_call 47; refine (HM.out _ (below1 _ _)).mono ?_; rintro e w1 ⟨rfl, hb1⟩; have hw1 := (alloc_below hb1).size)
    go_quiet (fail)
    go_wp2
    go_ret2
    exact ⟨by simp, Below.many ((alloc_below hb1).alloc hw1 _) _⟩
  · have hp : 0 < l.length := by
      rcases Nat.eq_zero_or_pos l.length with h | h
      · exact absurd (List.eq_nil_of_length_eq_zero h) h0
      · exact h
    have hk : l.length - 1 < l.length := by omega
    obtain ⟨g, off, rfl, hg, hcx, hxx⟩ := entry_cells hlf.row hk
    have HE : Hid (endT l T = (l[l.length - 1]'hk).1) := by
      have := endT_take hk T
      rwa [show l.length - 1 + 1 = l.length by omega, List.take_length] at this
    rw [HE.out]
    clear hxx HE
    generalize (l[l.length - 1]'hk).1 = X at hcx
    have hn : ((l.length : Int) == 0) = false := by simp; omega
    have hp' : (1 : Int) ≤ (l.length : Int) := by omega
    clear h0 hk
    go_enter Try.func33, Try.ntmps33
    go_wp2_with (go_at_call 47; refine (HM.out _ (below1 _ _)).mono ?_; rintro e w1 ⟨rfl, hb1⟩; have hw1 := (alloc_below hb1).size; have hcx1 := ((bcell (alloc_below hb1)).1 _ _ hg).trans hcx; have hg1 := Nat.lt_of_lt_of_le hg hw1)
    go_quiet (fail)
    go_wp2
    go_ret2
    exact ⟨rfl, Below.many ((alloc_below hb1).alloc hw1 _) _⟩
end Go.Proofs.Ytifbcdjabdfeeaa
