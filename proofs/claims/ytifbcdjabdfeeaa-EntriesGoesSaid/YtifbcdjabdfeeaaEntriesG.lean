/-
  Layer 4, the document's answer: a log that may be, the term of an index.
-/
import Derived.Test.YtifbcdjabdfeeaaEntriesF
namespace Go.Proofs.Ytifbcdjabdfeeaa
open Go.RowKit
set_option linter.unusedVariables false
set_option maxHeartbeats 1600000 in
theorem refFair_yes (b t : Int) (a : Option Addr) (cap : Nat) (es : List En) (w : World) (hl : LogIn w a cap es) (hm : mayL b t es = true) :
    Calls Try.prog 47 #[logV b t a es.length cap] w fun e w' => e = .returned (logV b t a es.length cap) ∧ Below w.heap.size w w' := by
  have HM : Hid (∀ W, Below w.heap.size w W → Calls Try.prog 38 #[logV b t a es.length cap] W fun e w' => e = .returned (.bool true) ∧ Below W.heap.size W w') := fun W h => by have := refMay_any b t a cap es W (hl.below h); rwa [hm] at this
  clear hl hm
  go_enter Try.func47, Try.ntmps47
  go_wp2_with (go_at_call 38; refine (HM.out _ (below2 _ _ _)).mono ?_; rintro e w1 ⟨rfl, hb1⟩; have hF := blk_keep hb1 (alloc2_fst _ _ _); have hG := blk_keep hb1 (alloc2_snd _ _ _); obtain ⟨hc0, hc1, hc2, _, _, _, hlt⟩ := box3 hF; obtain ⟨gc0, gc1, gc2, gf0, gf1, gf2, hlt2⟩ := box3 hG)
  obtain ⟨k0, k1, k2, _⟩ := box3 (set3_blk hG (.int .i64 b) (.int .i64 t) (.slice a es.length cap))
  refine bodyPost_ret (v := logV b t a es.length cap) (by simp [results, Try.results47, go_sem, k0, k1, k2]) rfl ?_
  exact ⟨rfl, set3_below (alloc2_below hb1) (by omega) _ _ _⟩
set_option maxHeartbeats 1600000 in
theorem refFair_no (b t : Int) (a : Option Addr) (cap : Nat) (es : List En) (w : World) (hl : LogIn w a cap es) (hm : mayL b t es = false) :
    Calls Try.prog 47 #[logV b t a es.length cap] w fun e w' => e = .returned (logV 0 0 none 0 0) ∧ Below w.heap.size w w' := by
  have HM : Hid (∀ W, Below w.heap.size w W → Calls Try.prog 38 #[logV b t a es.length cap] W fun e w' => e = .returned (.bool false) ∧ Below W.heap.size W w') := fun W h => by have := refMay_any b t a cap es W (hl.below h); rwa [hm] at this
  clear hl hm
  go_enter Try.func47, Try.ntmps47
  go_wp2_with (go_at_call 38; refine (HM.out _ (below2 _ _ _)).mono ?_; rintro e w1 ⟨rfl, hb1⟩; have hF := blk_keep hb1 (alloc2_fst _ _ _); have hG := blk_keep hb1 (alloc2_snd _ _ _); obtain ⟨hc0, hc1, hc2, _, _, _, hlt⟩ := box3 hF; obtain ⟨gc0, gc1, gc2, gf0, gf1, gf2, hlt2⟩ := box3 hG)
  obtain ⟨k0, k1, k2, _⟩ := box3 (set3_blk hG (.int .i64 0) (.int .i64 0) (.slice none 0 0))
  refine bodyPost_ret (v := logV 0 0 none 0 0) (by simp [results, Try.results47, go_sem, k0, k1, k2]) rfl ?_
  exact ⟨rfl, set3_below (alloc2_below hb1) (by omega) _ _ _⟩
theorem refFair_any (b t : Int) (a : Option Addr) (cap : Nat) (es : List En) (w : World) (hl : LogIn w a cap es) :
    Calls Try.prog 47 #[logV b t a es.length cap] w fun e w' => e = .returned (logV (fairL b t es).1 (fairL b t es).2.1 (fairA b t es a cap).1 (fairL b t es).2.2.length (fairA b t es a cap).2) ∧ Below w.heap.size w w' := by
  cases hm : mayL b t es with
  | true =>
    rw [fairL_yes hm, show fairA b t es a cap = (a, cap) from if_pos hm]
    exact refFair_yes b t a cap es w hl hm
  | false =>
    rw [fairL_no hm, show fairA b t es a cap = (none, 0) from if_neg (by rw [hm]; decide)]
    exact refFair_no b t a cap es w hl hm
set_option maxHeartbeats 1600000 in
theorem refTerm_any (b t : Int) (a : Option Addr) (cap : Nat) (es : List En) (i : Int) (hi : (Lit.int .i64 i).wf = true) (w : World) (hl : LogIn w a cap es) :
    Calls Try.prog 34 #[logV b t a es.length cap, .int .i64 i] w fun e w' => e = .returned (.tuple #[.int .i64 (termF b t es i).1, .bool (termF b t es i).2]) ∧ Below w.heap.size w w' := by
  have HM : Hid (∀ W, Below w.heap.size w W → Calls Try.prog 47 #[logV b t a es.length cap] W fun e w' => e = .returned (logV (fairL b t es).1 (fairL b t es).2.1 (fairA b t es a cap).1 (fairL b t es).2.2.length (fairA b t es a cap).2) ∧ Below W.heap.size W w') := fun W h => refFair_any b t a cap es W (hl.below h)
  have hmay := fairL_may b t es
  have hlf := hl.fair b t
  unfold termF
  clear hl
  generalize fairA b t es a cap = A at HM hlf
  generalize fairL b t es = l at HM hmay hlf
  obtain ⟨B, T, l⟩ := l
  obtain ⟨a', cap'⟩ := A
  simp only at HM hmay hlf
  obtain ⟨h1, h2, _, _, _, h6, _⟩ := mayL_true hmay
  simp only at h1 h2 h6 ⊢
  have h6' : (l.length : Int) ≤ 64 := by omega
  clear hmay
  have hi2 : Hid (i ≤ 9223372036854775807) := by simp [Lit.wf, IntKind.min, IntKind.max, IntKind.bits, IntKind.signed] at hi; exact hi.2
  clear hi
  by_cases e1 : i = B
  · subst e1
    have HT : Hid (termL i T l i = (T, true)) := by rw [Hid]; unfold termL; rw [if_pos rfl]
    rw [HT.out]
    dsimp only
    clear HT
    go_enter Try.func34, Try.ntmps34
    go_wp2_with (go_at_call 47; refine (HM.out _ (below1 _ _)).mono ?_; rintro e w1 ⟨rfl, hb1⟩; have hw1 := (alloc_below hb1).size)
    go_ret2
    exact ⟨rfl, (alloc_below hb1).alloc hw1 _⟩
  have e1' : (i == B) = false := by simpa using e1
  by_cases e2 : i < B
  · have HT := Lib.hid (termL_out (t := T) (es := l) (b := B) (i := i) (.inl e2))
    rw [HT.out]
    dsimp only
    clear HT
    clear e1
    go_enter Try.func34, Try.ntmps34
    go_wp2_with (go_at_call 47; refine (HM.out _ (below1 _ _)).mono ?_; rintro e w1 ⟨rfl, hb1⟩; have hw1 := (alloc_below hb1).size)
    go_ret2
    exact ⟨rfl, (alloc_below hb1).alloc hw1 _⟩
  have hw : wrap64 (i - B) = i - B := by have := hi2.out; unfold wrap64; omega
  by_cases e3 : B + (l.length : Int) < i
  · have HT := Lib.hid (termL_out (t := T) (es := l) (b := B) (i := i) (.inr e3))
    rw [HT.out]
    dsimp only
    clear HT
    clear e1
    go_enter Try.func34, Try.ntmps34
    go_wp2_with (go_at_call 47; refine (HM.out _ (below1 _ _)).mono ?_; rintro e w1 ⟨rfl, hb1⟩; have hw1 := (alloc_below hb1).size)
    go_ret2
    exact ⟨rfl, (alloc_below hb1).alloc hw1 _⟩
  · have hk : (i - B).toNat - 1 < l.length := by omega
    have hke : (i - B - 1).toNat = (i - B).toNat - 1 := by omega
    have HT : Hid (termL B T l i = ((l[(i - B).toNat - 1]'hk).1, true)) := by
      unfold termL
      rw [Hid, if_neg e1, if_neg (by omega), hke, List.getD_eq_getElem?_getD, List.getElem?_eq_getElem hk]
      rfl
    rw [HT.out]
    dsimp only
    clear HT
    obtain ⟨g, off, rfl, hg, hcx, hxx⟩ := entry_cells hlf.row hk
    clear hxx
    generalize (l[(i - B).toNat - 1]'hk).1 = X at hcx
    have hx0 : 0 ≤ i - B - 1 := by omega
    have hx1 : i - B - 1 < l.length := by omega
    clear e1 hk hke
    go_enter Try.func34, Try.ntmps34
    go_wp2_with (go_at_call 47; refine (HM.out _ (below1 _ _)).mono ?_; rintro e w1 ⟨rfl, hb1⟩; have hw1 := (alloc_below hb1).size; have hcx1 := ((bcell (alloc_below hb1)).1 _ _ hg).trans hcx; have hg1 := Nat.lt_of_lt_of_le hg hw1)
    go_ret2
    exact ⟨rfl, (alloc_below hb1).alloc hw1 _⟩
end Go.Proofs.Ytifbcdjabdfeeaa
