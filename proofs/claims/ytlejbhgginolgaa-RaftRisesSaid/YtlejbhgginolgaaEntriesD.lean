/-
  Layer 4: the term of an index.
-/
import Derived.Test.YtlejbhgginolgaaEntriesC
namespace Go.Proofs.Ytlejbhgginolgaa
open Go.RowKit
set_option linter.unusedVariables false
/-- A log, or none, if it may not be. -/
def fairL (b t : Int) (es : List En) : Int × Int × List En := if mayL b t es = true then (b, t, es) else (0, 0, [])
theorem fairL_yes {b t : Int} {es : List En} (h : mayL b t es = true) : fairL b t es = (b, t, es) := if_pos h
theorem fairL_no {b t : Int} {es : List En} (h : mayL b t es = false) : fairL b t es = (0, 0, []) := by unfold fairL; rw [if_neg (by rw [h]; decide)]
theorem mayL_zero : mayL 0 0 [] = true := by decide
theorem fairL_may (b t : Int) (es : List En) : mayL (fairL b t es).1 (fairL b t es).2.1 (fairL b t es).2.2 = true := by
  unfold fairL
  by_cases h : mayL b t es = true
  · rw [if_pos h]; exact h
  · rw [if_neg h]; exact mayL_zero
theorem LogIn.zero (w : World) : LogIn w none 0 [] := ⟨RowAt.nil, Nat.le_refl _, fun _ => rfl, Nat.zero_le _⟩
/-- Where its entries lie. -/
def fairA (b t : Int) (es : List En) (a : Option Addr) (cap : Nat) : Option Addr × Nat := if mayL b t es = true then (a, cap) else (none, 0)
theorem LogIn.fair {w : World} {a : Option Addr} {cap : Nat} {es : List En} (h : LogIn w a cap es) (b t : Int) : LogIn w (fairA b t es a cap).1 (fairA b t es a cap).2 (fairL b t es).2.2 := by
  unfold fairA fairL
  by_cases hm : mayL b t es = true
  · rw [if_pos hm, if_pos hm]; exact h
  · rw [if_neg hm, if_neg hm]; exact LogIn.zero w
theorem fair_any (b t : Int) (a : Option Addr) (cap : Nat) (es : List En) (w : World) (hl : LogIn w a cap es) :
    Calls Try.prog 40 #[logV b t a es.length cap] w fun e w' => e = .returned (logV (fairL b t es).1 (fairL b t es).2.1 (fairA b t es a cap).1 (fairL b t es).2.2.length (fairA b t es a cap).2) ∧ Below w.heap.size w w' := by
  cases hm : mayL b t es with
  | true =>
    rw [fairL_yes hm, show fairA b t es a cap = (a, cap) from if_pos hm]
    exact fair_yes b t a cap es w hl hm
  | false =>
    rw [fairL_no hm, show fairA b t es a cap = (none, 0) from if_neg (by rw [hm]; decide)]
    exact fair_no b t a cap es w hl hm
/-- The term of an index. -/
def termF (b t : Int) (es : List En) (i : Int) : Int × Bool := termL (fairL b t es).1 (fairL b t es).2.1 (fairL b t es).2.2 i
set_option maxHeartbeats 1600000 in
theorem term_any (b t : Int) (a : Option Addr) (cap : Nat) (es : List En) (i : Int) (w : World) (hl : LogIn w a cap es) :
    Calls Try.prog 41 #[logV b t a es.length cap, .int .i64 i] w fun e w' => e = .returned (.tuple #[.int .i64 (termF b t es i).1, .bool (termF b t es i).2]) ∧ Below w.heap.size w w' := by
  have HM : Hid (∀ W, Below w.heap.size w W → Calls Try.prog 40 #[logV b t a es.length cap] W fun e w' => e = .returned (logV (fairL b t es).1 (fairL b t es).2.1 (fairA b t es a cap).1 (fairL b t es).2.2.length (fairA b t es a cap).2) ∧ Below W.heap.size W w') := fun W h => fair_any b t a cap es W (hl.below h)
  have hmay := fairL_may b t es
  have hlf := hl.fair b t
  unfold termF
  clear hl
  generalize fairA b t es a cap = A at HM hlf
  generalize fairL b t es = l at HM hmay hlf
  obtain ⟨B, T, l⟩ := l
  obtain ⟨a', cap'⟩ := A
  simp only at HM hmay hlf
  obtain ⟨h1, h2, _, _, _, h6, _⟩ := mayL_true hmay
  simp only at h1 h2 h6 ⊢
  have h6' : (l.length : Int) ≤ 64 := by omega
  clear hmay
  by_cases e1 : i = B
  · subst e1
    have HT : Hid (termL i T l i = (T, true)) := by rw [Hid]; unfold termL; rw [if_pos rfl]
    rw [HT.out]
    dsimp only
    clear HT
    go_enter Try.func41, Try.ntmps41
    go_wp2_with (go_at_call 40; refine (HM.out _ (below1 _ _)).mono ?_; rintro e w1 ⟨rfl, hb1⟩; have hF := blk_keep hb1 (blk_new _ _); obtain ⟨hc0, hc1, hc2, hf0, hf1, hf2, hlt⟩ := box3 hF)
    go_ret2
    exact ⟨rfl, set3_below (alloc_below hb1) (Nat.le_refl _) _ _ _⟩
  have e1' : (i == B) = false := by simpa using e1
  by_cases e2 : i < B
  · have HT := Lib.hid (termL_out (t := T) (es := l) (b := B) (i := i) (.inl e2))
    rw [HT.out]
    dsimp only
    clear HT
    clear e1
    go_enter Try.func41, Try.ntmps41
    go_wp2_with (go_at_call 40; refine (HM.out _ (below1 _ _)).mono ?_; rintro e w1 ⟨rfl, hb1⟩; have hF := blk_keep hb1 (blk_new _ _); obtain ⟨hc0, hc1, hc2, hf0, hf1, hf2, hlt⟩ := box3 hF)
    go_ret2
    exact ⟨rfl, set3_below (alloc_below hb1) (Nat.le_refl _) _ _ _⟩
  by_cases e3 : B + (l.length : Int) < i
  · have HT := Lib.hid (termL_out (t := T) (es := l) (b := B) (i := i) (.inr e3))
    rw [HT.out]
    dsimp only
    clear HT
    clear e1
    go_enter Try.func41, Try.ntmps41
    go_wp2_with (go_at_call 40; refine (HM.out _ (below1 _ _)).mono ?_; rintro e w1 ⟨rfl, hb1⟩; have hF := blk_keep hb1 (blk_new _ _); obtain ⟨hc0, hc1, hc2, hf0, hf1, hf2, hlt⟩ := box3 hF)
    go_ret2
    exact ⟨rfl, set3_below (alloc_below hb1) (Nat.le_refl _) _ _ _⟩
  · have hk : (i - B).toNat - 1 < l.length := by omega
    have hke : (i - B - 1).toNat = (i - B).toNat - 1 := by omega
    have HT : Hid (termL B T l i = ((l[(i - B).toNat - 1]'hk).1, true)) := by
      unfold termL
      rw [Hid, if_neg e1, if_neg (by omega), hke, List.getD_eq_getElem?_getD, List.getElem?_eq_getElem hk]
      rfl
    rw [HT.out]
    dsimp only
    clear HT
    obtain ⟨g, off, rfl, hg, hcx, hxx⟩ := entry_cells hlf.row hk
    clear hxx
    generalize (l[(i - B).toNat - 1]'hk).1 = X at hcx
    have hx0 : 0 ≤ i - B - 1 := by omega
    have hx1 : i - B - 1 < l.length := by omega
    clear e1 hk hke
    go_enter Try.func41, Try.ntmps41
    go_wp2_with (go_at_call 40; refine (HM.out _ (below1 _ _)).mono ?_; rintro e w1 ⟨rfl, hb1⟩; have hF := blk_keep hb1 (blk_new _ _); obtain ⟨hc0, hc1, hc2, hf0, hf1, hf2, hlt⟩ := box3 hF; have hcx1 := ((bcell (alloc_below hb1)).1 _ _ hg).trans hcx)
    go_ret2
    exact ⟨rfl, set3_below (alloc_below hb1) (Nat.le_refl _) _ _ _⟩
end Go.Proofs.Ytlejbhgginolgaa
