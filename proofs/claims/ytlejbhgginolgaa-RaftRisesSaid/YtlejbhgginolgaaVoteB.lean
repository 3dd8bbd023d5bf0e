/-
  Layer 5: who is given a vote.
-/
import Derived.Test.YtlejbhgginolgaaVoteA
namespace Go.Proofs.Ytlejbhgginolgaa
open Go.RowKit
set_option linter.unusedVariables false
/-- A ballot behind who asks, and whether it was given. -/
def grantF (t v b bt : Int) (es : List En) (f T I LT : Int) : Int × Int × Bool :=
  if T = (seeF t v T).1 ∧ memberB f = true ∧ ((seeF t v T).2 = 0 ∨ (seeF t v T).2 = f) ∧ newerB I LT (lastF b bt es).1 (lastF b bt es).2 = true then ((seeF t v T).1, f, true) else ((seeF t v T).1, (seeF t v T).2, false)
theorem box9 {w : World} {F : Nat} {c0 c1 c2 c3 c4 c5 c6 c7 c8 : Value} {t : TypeId} (h : w.heap[F]? = some (.cells #[c0, c1, c2, c3, c4, c5, c6, c7, c8] t)) :
    w.cell? ⟨F, 0, none⟩ = some c0 ∧ w.cell? ⟨F, 1, none⟩ = some c1 ∧ w.cell? ⟨F, 2, none⟩ = some c2 ∧ w.cell? ⟨F, 3, none⟩ = some c3 ∧ w.cell? ⟨F, 4, none⟩ = some c4 ∧ w.cell? ⟨F, 5, none⟩ = some c5 ∧ w.cell? ⟨F, 6, none⟩ = some c6 ∧ w.cell? ⟨F, 7, none⟩ = some c7 ∧ w.cell? ⟨F, 8, none⟩ = some c8 :=
  ⟨blk_cell h 0, blk_cell h 1, blk_cell h 2, blk_cell h 3, blk_cell h 4, blk_cell h 5, blk_cell h 6, blk_cell h 7, blk_cell h 8⟩
/-- Four blocks that were made first. -/
theorem alloc4 (w : World) (o1 o2 o3 o4 : Obj) : (((((w.alloc o1).alloc o2).alloc o3).alloc o4).heap[w.heap.size]? = some o1 ∧ ((((w.alloc o1).alloc o2).alloc o3).alloc o4).heap[w.heap.size + 1]? = some o2 ∧
    ((((w.alloc o1).alloc o2).alloc o3).alloc o4).heap[w.heap.size + 2]? = some o3 ∧ ((((w.alloc o1).alloc o2).alloc o3).alloc o4).heap[w.heap.size + 3]? = some o4) ∧ ((((w.alloc o1).alloc o2).alloc o3).alloc o4).heap.size = w.heap.size + 4 ∧ Below w.heap.size w ((((w.alloc o1).alloc o2).alloc o3).alloc o4) := by
  have h3 := blk_new ((w.alloc o1).alloc o2) o3
  have h4 := blk_new (((w.alloc o1).alloc o2).alloc o3) o4
  refine ⟨⟨blk_alloc (blk_alloc (alloc2_fst w o1 o2) o3) o4, blk_alloc (blk_alloc (alloc2_snd w o1 o2) o3) o4, blk_alloc ?_ o4, ?_⟩, by simp, ((below2 w o1 o2).alloc (by simp; omega) o3).alloc (by simp; omega) o4⟩
  · simpa using h3
  · simpa using h4
set_option maxHeartbeats 3200000 in
theorem grant_any (t v b bt : Int) (a : Option Addr) (cap : Nat) (es : List En) (m : Mg) (am : Option Addr) (cm : Nat) (w : World) (hl : LogIn w a cap es) :
    Calls Try.prog 47 #[ballotV t v, logV b bt a es.length cap, msgV m am cm] w fun e w' => e = .returned (.tuple #[ballotV (grantF t v b bt es m.2.1 m.2.2.2.1 m.2.2.2.2.1 m.2.2.2.2.2.1).1 (grantF t v b bt es m.2.1 m.2.2.2.1 m.2.2.2.2.1 m.2.2.2.2.2.1).2.1, .bool (grantF t v b bt es m.2.1 m.2.2.2.1 m.2.2.2.2.1 m.2.2.2.2.2.1).2.2]) ∧ Below w.heap.size w w' := by
  obtain ⟨k, f, o, T, I, LT, C, Y, L⟩ := m
  unfold grantF
  simp only
  have HS : Hid (∀ W, Calls Try.prog 38 #[ballotV t v, .int .i64 T] W fun e w' => e = .returned (ballotV (seeF t v T).1 (seeF t v T).2) ∧ Below W.heap.size W w') := fun W => see_any t v T W
  have HM : Hid (∀ W, Calls Try.prog 42 #[.int .i64 f] W fun e w' => e = .returned (.bool (memberB f)) ∧ w' = W) := fun W => member_any f W
  have HL : Hid (∀ W, Below w.heap.size w W → Calls Try.prog 21 #[logV b bt a es.length cap] W fun e w' => e = .returned (.tuple #[.int .i64 (lastF b bt es).1, .int .i64 (lastF b bt es).2]) ∧ Below W.heap.size W w') := fun W h => last_any b bt a cap es W (hl.below h)
  have HN : Hid (∀ W, Calls Try.prog 52 #[.int .i64 I, .int .i64 LT, .int .i64 (lastF b bt es).1, .int .i64 (lastF b bt es).2] W fun e w' => e = .returned (.bool (newerB I LT (lastF b bt es).1 (lastF b bt es).2)) ∧ w' = W) := fun W => newer_any I LT _ _ W
  clear hl
  generalize newerB I LT (lastF b bt es).1 (lastF b bt es).2 = N at HN
  generalize lastF b bt es = li at HL HN
  generalize memberB f = M at HM
  generalize seeF t v T = x at HS
  obtain ⟨x, y⟩ := x
  obtain ⟨li, lt⟩ := li
  simp only at HS HL HN ⊢
  generalize L.length = nl
  by_cases h1 : T = x
  · subst h1
    cases M with
    | false =>
      rw [if_neg (by simp)]
      clear HL HN
      go_enter Try.func47, Try.ntmps47
      go_wp2
      refine scope_fwd 0 rfl ?_
      go_wp2_with (first
        | (go_at_call 38; refine (HS.out _).mono ?_; rintro e w1 ⟨rfl, hb1⟩; obtain ⟨⟨g0, g1, g2, g3⟩, hz, hw0⟩ := alloc4 w _ _ _ _; replace hw0 := hw0.trans (hb1.mono (by rw [hz]; omega)); replace g0 := blk_keep hb1 g0; replace g1 := blk_keep hb1 g1; replace g2 := blk_keep hb1 g2; replace g3 := blk_keep hb1 g3; clear hz hb1; obtain ⟨hc0, hc1, hf0, hf1, hlt0⟩ := box2 g0; obtain ⟨lc0, lc1, lc2, _, _, _, hlt1⟩ := box3 g1; obtain ⟨mc0, mc1, mc2, mc3, mc4, mc5, mc6, mc7, mc8⟩ := box9 g2; obtain ⟨rc0, rc1, rf0, rf1, hlt3⟩ := box2 g3; replace g0 := set2_blk g0 (.int .i64 T) (.int .i64 y); replace g1 := set2_far g1 (G := w.heap.size) (by omega) (.int .i64 T) (.int .i64 y); replace g2 := set2_far g2 (G := w.heap.size) (by omega) (.int .i64 T) (.int .i64 y); replace g3 := set2_far g3 (G := w.heap.size) (by omega) (.int .i64 T) (.int .i64 y); replace hw0 := set2_below hw0 (Nat.le_refl _) (.int .i64 T) (.int .i64 y))
        | (go_at_call 42; refine (HM.out _).mono ?_; rintro e w2 ⟨rfl, rfl⟩))
      refine wp_goto (And.intro rfl ?_)
      go_wp2
      simp only [Exit.jump]
      obtain ⟨k0, k1, _⟩ := box2 (set2_blk g3 (.int .i64 T) (.int .i64 y))
      refine bodyPost_ret (v := .tuple #[ballotV T y, .bool false]) (by simp [results, Try.results47, go_sem, k0, k1]) rfl ?_
      exact ⟨rfl, set2_below hw0 (by omega) _ _⟩
    | true =>
      by_cases hy : y = 0
      · subst hy
        cases N with
        | false =>
          rw [if_neg (by simp)]
          go_enter Try.func47, Try.ntmps47
          go_wp2
          refine scope_fwd 0 rfl ?_
          go_wp2_with (first
            | (go_at_call 38; refine (HS.out _).mono ?_; rintro e w1 ⟨rfl, hb1⟩; obtain ⟨⟨g0, g1, g2, g3⟩, hz, hw0⟩ := alloc4 w _ _ _ _; replace hw0 := hw0.trans (hb1.mono (by rw [hz]; omega)); replace g0 := blk_keep hb1 g0; replace g1 := blk_keep hb1 g1; replace g2 := blk_keep hb1 g2; replace g3 := blk_keep hb1 g3; clear hz hb1; obtain ⟨hc0, hc1, hf0, hf1, hlt0⟩ := box2 g0; obtain ⟨lc0, lc1, lc2, _, _, _, hlt1⟩ := box3 g1; obtain ⟨mc0, mc1, mc2, mc3, mc4, mc5, mc6, mc7, mc8⟩ := box9 g2; obtain ⟨rc0, rc1, rf0, rf1, hlt3⟩ := box2 g3; replace g0 := set2_blk g0 (.int .i64 T) (.int .i64 0); replace g1 := set2_far g1 (G := w.heap.size) (by omega) (.int .i64 T) (.int .i64 0); replace g2 := set2_far g2 (G := w.heap.size) (by omega) (.int .i64 T) (.int .i64 0); replace g3 := set2_far g3 (G := w.heap.size) (by omega) (.int .i64 T) (.int .i64 0); replace hw0 := set2_below hw0 (Nat.le_refl _) (.int .i64 T) (.int .i64 0))
            | (go_at_call 42; refine (HM.out _).mono ?_; rintro e w2 ⟨rfl, rfl⟩)
            | (go_at_call 21; refine (HL.out _ hw0).mono ?_; rintro e w3 ⟨rfl, hb3⟩; replace hw0 := hw0.trans (hb3.mono hw0.size); replace g0 := blk_keep hb3 g0; replace g2 := blk_keep hb3 g2; replace g3 := blk_keep hb3 g3; obtain ⟨hc0, hc1, hf0, hf1, hlt0⟩ := box2 g0; obtain ⟨mc0, mc1, mc2, mc3, mc4, mc5, mc6, mc7, mc8⟩ := box9 g2; obtain ⟨rc0, rc1, rf0, rf1, hlt3⟩ := box2 g3)
            | (go_at_call 52; refine (HN.out _).mono ?_; rintro e w4 ⟨rfl, rfl⟩))
          refine wp_goto (And.intro rfl ?_)
          go_wp2
          simp only [Exit.jump]
          obtain ⟨k0, k1, _⟩ := box2 (set2_blk g3 (.int .i64 T) (.int .i64 0))
          refine bodyPost_ret (v := .tuple #[ballotV T 0, .bool false]) (by simp [results, Try.results47, go_sem, k0, k1]) rfl ?_
          exact ⟨rfl, set2_below hw0 (by omega) _ _⟩
        | true =>
          rw [if_pos (by simp)]
          go_enter Try.func47, Try.ntmps47
          go_wp2
          refine scope_fwd 0 rfl ?_
          go_wp2_with (first
            | (go_at_call 38; refine (HS.out _).mono ?_; rintro e w1 ⟨rfl, hb1⟩; obtain ⟨⟨g0, g1, g2, g3⟩, hz, hw0⟩ := alloc4 w _ _ _ _; replace hw0 := hw0.trans (hb1.mono (by rw [hz]; omega)); replace g0 := blk_keep hb1 g0; replace g1 := blk_keep hb1 g1; replace g2 := blk_keep hb1 g2; replace g3 := blk_keep hb1 g3; clear hz hb1; obtain ⟨hc0, hc1, hf0, hf1, hlt0⟩ := box2 g0; obtain ⟨lc0, lc1, lc2, _, _, _, hlt1⟩ := box3 g1; obtain ⟨mc0, mc1, mc2, mc3, mc4, mc5, mc6, mc7, mc8⟩ := box9 g2; obtain ⟨rc0, rc1, rf0, rf1, hlt3⟩ := box2 g3; replace g0 := set2_blk g0 (.int .i64 T) (.int .i64 0); replace g1 := set2_far g1 (G := w.heap.size) (by omega) (.int .i64 T) (.int .i64 0); replace g2 := set2_far g2 (G := w.heap.size) (by omega) (.int .i64 T) (.int .i64 0); replace g3 := set2_far g3 (G := w.heap.size) (by omega) (.int .i64 T) (.int .i64 0); replace hw0 := set2_below hw0 (Nat.le_refl _) (.int .i64 T) (.int .i64 0))
            | (go_at_call 42; refine (HM.out _).mono ?_; rintro e w2 ⟨rfl, rfl⟩)
            | (go_at_call 21; refine (HL.out _ hw0).mono ?_; rintro e w3 ⟨rfl, hb3⟩; replace hw0 := hw0.trans (hb3.mono hw0.size); replace g0 := blk_keep hb3 g0; replace g2 := blk_keep hb3 g2; replace g3 := blk_keep hb3 g3; obtain ⟨hc0, hc1, hf0, hf1, hlt0⟩ := box2 g0; obtain ⟨mc0, mc1, mc2, mc3, mc4, mc5, mc6, mc7, mc8⟩ := box9 g2; obtain ⟨rc0, rc1, rf0, rf1, hlt3⟩ := box2 g3)
            | (go_at_call 52; refine (HN.out _).mono ?_; rintro e w4 ⟨rfl, rfl⟩))
          simp only [Exit.jump]
          obtain ⟨k0, k1, _⟩ := box2 (set2_blk (blk_far (i := 1) g3 (G := w.heap.size) (by omega) (.int .i64 f)) (.int .i64 T) (.int .i64 f))
          refine bodyPost_ret (v := .tuple #[ballotV T f, .bool true]) (by simp [results, Try.results47, go_sem, k0, k1]) rfl ?_
          exact ⟨rfl, set2_below (hw0.setCell (p := ⟨w.heap.size, 1, none⟩) (Nat.le_refl _) _) (by omega) _ _⟩
      have hy1 : (y != 0) = true := by simpa using hy
      by_cases hyf : y = f
      · subst hyf
        clear hy
        cases N with
        | false =>
          rw [if_neg (by simp)]
          go_enter Try.func47, Try.ntmps47
          go_wp2
          refine scope_fwd 0 rfl ?_
          go_wp2_with (first
            | (go_at_call 38; refine (HS.out _).mono ?_; rintro e w1 ⟨rfl, hb1⟩; obtain ⟨⟨g0, g1, g2, g3⟩, hz, hw0⟩ := alloc4 w _ _ _ _; replace hw0 := hw0.trans (hb1.mono (by rw [hz]; omega)); replace g0 := blk_keep hb1 g0; replace g1 := blk_keep hb1 g1; replace g2 := blk_keep hb1 g2; replace g3 := blk_keep hb1 g3; clear hz hb1; obtain ⟨hc0, hc1, hf0, hf1, hlt0⟩ := box2 g0; obtain ⟨lc0, lc1, lc2, _, _, _, hlt1⟩ := box3 g1; obtain ⟨mc0, mc1, mc2, mc3, mc4, mc5, mc6, mc7, mc8⟩ := box9 g2; obtain ⟨rc0, rc1, rf0, rf1, hlt3⟩ := box2 g3; replace g0 := set2_blk g0 (.int .i64 T) (.int .i64 y); replace g1 := set2_far g1 (G := w.heap.size) (by omega) (.int .i64 T) (.int .i64 y); replace g2 := set2_far g2 (G := w.heap.size) (by omega) (.int .i64 T) (.int .i64 y); replace g3 := set2_far g3 (G := w.heap.size) (by omega) (.int .i64 T) (.int .i64 y); replace hw0 := set2_below hw0 (Nat.le_refl _) (.int .i64 T) (.int .i64 y))
            | (go_at_call 42; refine (HM.out _).mono ?_; rintro e w2 ⟨rfl, rfl⟩)
            | (go_at_call 21; refine (HL.out _ hw0).mono ?_; rintro e w3 ⟨rfl, hb3⟩; replace hw0 := hw0.trans (hb3.mono hw0.size); replace g0 := blk_keep hb3 g0; replace g2 := blk_keep hb3 g2; replace g3 := blk_keep hb3 g3; obtain ⟨hc0, hc1, hf0, hf1, hlt0⟩ := box2 g0; obtain ⟨mc0, mc1, mc2, mc3, mc4, mc5, mc6, mc7, mc8⟩ := box9 g2; obtain ⟨rc0, rc1, rf0, rf1, hlt3⟩ := box2 g3)
            | (go_at_call 52; refine (HN.out _).mono ?_; rintro e w4 ⟨rfl, rfl⟩))
          refine wp_goto (And.intro rfl ?_)
          go_wp2
          simp only [Exit.jump]
          obtain ⟨k0, k1, _⟩ := box2 (set2_blk g3 (.int .i64 T) (.int .i64 y))
          refine bodyPost_ret (v := .tuple #[ballotV T y, .bool false]) (by simp [results, Try.results47, go_sem, k0, k1]) rfl ?_
          exact ⟨rfl, set2_below hw0 (by omega) _ _⟩
        | true =>
          rw [if_pos (by simp)]
          go_enter Try.func47, Try.ntmps47
          go_wp2
          refine scope_fwd 0 rfl ?_
          go_wp2_with (first
            | (go_at_call 38; refine (HS.out _).mono ?_; rintro e w1 ⟨rfl, hb1⟩; obtain ⟨⟨g0, g1, g2, g3⟩, hz, hw0⟩ := alloc4 w _ _ _ _; replace hw0 := hw0.trans (hb1.mono (by rw [hz]; omega)); replace g0 := blk_keep hb1 g0; replace g1 := blk_keep hb1 g1; replace g2 := blk_keep hb1 g2; replace g3 := blk_keep hb1 g3; clear hz hb1; obtain ⟨hc0, hc1, hf0, hf1, hlt0⟩ := box2 g0; obtain ⟨lc0, lc1, lc2, _, _, _, hlt1⟩ := box3 g1; obtain ⟨mc0, mc1, mc2, mc3, mc4, mc5, mc6, mc7, mc8⟩ := box9 g2; obtain ⟨rc0, rc1, rf0, rf1, hlt3⟩ := box2 g3; replace g0 := set2_blk g0 (.int .i64 T) (.int .i64 y); replace g1 := set2_far g1 (G := w.heap.size) (by omega) (.int .i64 T) (.int .i64 y); replace g2 := set2_far g2 (G := w.heap.size) (by omega) (.int .i64 T) (.int .i64 y); replace g3 := set2_far g3 (G := w.heap.size) (by omega) (.int .i64 T) (.int .i64 y); replace hw0 := set2_below hw0 (Nat.le_refl _) (.int .i64 T) (.int .i64 y))
            | (go_at_call 42; refine (HM.out _).mono ?_; rintro e w2 ⟨rfl, rfl⟩)
            | (go_at_call 21; refine (HL.out _ hw0).mono ?_; rintro e w3 ⟨rfl, hb3⟩; replace hw0 := hw0.trans (hb3.mono hw0.size); replace g0 := blk_keep hb3 g0; replace g2 := blk_keep hb3 g2; replace g3 := blk_keep hb3 g3; obtain ⟨hc0, hc1, hf0, hf1, hlt0⟩ := box2 g0; obtain ⟨mc0, mc1, mc2, mc3, mc4, mc5, mc6, mc7, mc8⟩ := box9 g2; obtain ⟨rc0, rc1, rf0, rf1, hlt3⟩ := box2 g3)
            | (go_at_call 52; refine (HN.out _).mono ?_; rintro e w4 ⟨rfl, rfl⟩))
          simp only [Exit.jump]
          obtain ⟨k0, k1, _⟩ := box2 (set2_blk (blk_far (i := 1) g3 (G := w.heap.size) (by omega) (.int .i64 y)) (.int .i64 T) (.int .i64 y))
          refine bodyPost_ret (v := .tuple #[ballotV T y, .bool true]) (by simp [results, Try.results47, go_sem, k0, k1]) rfl ?_
          exact ⟨rfl, set2_below (hw0.setCell (p := ⟨w.heap.size, 1, none⟩) (Nat.le_refl _) _) (by omega) _ _⟩
      · have hy2 : (y != f) = true := by simpa using hyf
        rw [if_neg (by rintro ⟨_, _, h, _⟩; omega)]
        clear HL HN hy hyf
        go_enter Try.func47, Try.ntmps47
        go_wp2
        refine scope_fwd 0 rfl ?_
        go_wp2_with (first
          | (go_at_call 38; refine (HS.out _).mono ?_; rintro e w1 ⟨rfl, hb1⟩; obtain ⟨⟨g0, g1, g2, g3⟩, hz, hw0⟩ := alloc4 w _ _ _ _; replace hw0 := hw0.trans (hb1.mono (by rw [hz]; omega)); replace g0 := blk_keep hb1 g0; replace g1 := blk_keep hb1 g1; replace g2 := blk_keep hb1 g2; replace g3 := blk_keep hb1 g3; clear hz hb1; obtain ⟨hc0, hc1, hf0, hf1, hlt0⟩ := box2 g0; obtain ⟨lc0, lc1, lc2, _, _, _, hlt1⟩ := box3 g1; obtain ⟨mc0, mc1, mc2, mc3, mc4, mc5, mc6, mc7, mc8⟩ := box9 g2; obtain ⟨rc0, rc1, rf0, rf1, hlt3⟩ := box2 g3; replace g0 := set2_blk g0 (.int .i64 T) (.int .i64 y); replace g1 := set2_far g1 (G := w.heap.size) (by omega) (.int .i64 T) (.int .i64 y); replace g2 := set2_far g2 (G := w.heap.size) (by omega) (.int .i64 T) (.int .i64 y); replace g3 := set2_far g3 (G := w.heap.size) (by omega) (.int .i64 T) (.int .i64 y); replace hw0 := set2_below hw0 (Nat.le_refl _) (.int .i64 T) (.int .i64 y))
          | (go_at_call 42; refine (HM.out _).mono ?_; rintro e w2 ⟨rfl, rfl⟩))
        refine wp_goto (And.intro rfl ?_)
        go_wp2
        simp only [Exit.jump]
        obtain ⟨k0, k1, _⟩ := box2 (set2_blk g3 (.int .i64 T) (.int .i64 y))
        refine bodyPost_ret (v := .tuple #[ballotV T y, .bool false]) (by simp [results, Try.results47, go_sem, k0, k1]) rfl ?_
        exact ⟨rfl, set2_below hw0 (by omega) _ _⟩
  · have h2 : (T != x) = true := by simpa using h1
    rw [if_neg (by rintro ⟨h, _⟩; exact h1 h)]
    clear h1 HL HN
    go_enter Try.func47, Try.ntmps47
    go_wp2
    refine scope_fwd 0 rfl ?_
    go_wp2_with (first
      | (go_at_call 38; refine (HS.out _).mono ?_; rintro e w1 ⟨rfl, hb1⟩; obtain ⟨⟨g0, g1, g2, g3⟩, hz, hw0⟩ := alloc4 w _ _ _ _; replace hw0 := hw0.trans (hb1.mono (by rw [hz]; omega)); replace g0 := blk_keep hb1 g0; replace g1 := blk_keep hb1 g1; replace g2 := blk_keep hb1 g2; replace g3 := blk_keep hb1 g3; clear hz hb1; obtain ⟨hc0, hc1, hf0, hf1, hlt0⟩ := box2 g0; obtain ⟨lc0, lc1, lc2, _, _, _, hlt1⟩ := box3 g1; obtain ⟨mc0, mc1, mc2, mc3, mc4, mc5, mc6, mc7, mc8⟩ := box9 g2; obtain ⟨rc0, rc1, rf0, rf1, hlt3⟩ := box2 g3; replace g0 := set2_blk g0 (.int .i64 x) (.int .i64 y); replace g1 := set2_far g1 (G := w.heap.size) (by omega) (.int .i64 x) (.int .i64 y); replace g2 := set2_far g2 (G := w.heap.size) (by omega) (.int .i64 x) (.int .i64 y); replace g3 := set2_far g3 (G := w.heap.size) (by omega) (.int .i64 x) (.int .i64 y); replace hw0 := set2_below hw0 (Nat.le_refl _) (.int .i64 x) (.int .i64 y))
      | (go_at_call 42; refine (HM.out _).mono ?_; rintro e w2 ⟨rfl, rfl⟩))
    refine wp_goto (And.intro rfl ?_)
    go_wp2
    simp only [Exit.jump]
    obtain ⟨k0, k1, _⟩ := box2 (set2_blk g3 (.int .i64 x) (.int .i64 y))
    refine bodyPost_ret (v := .tuple #[ballotV x y, .bool false]) (by simp [results, Try.results47, go_sem, k0, k1]) rfl ?_
    exact ⟨rfl, set2_below hw0 (by omega) _ _⟩
end Go.Proofs.Ytlejbhgginolgaa
