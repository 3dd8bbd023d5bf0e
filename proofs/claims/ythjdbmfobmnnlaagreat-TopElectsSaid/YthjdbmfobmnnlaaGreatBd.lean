/-
  Bd: several texts in one.
-/
import Derived.Test.YthjdbmfobmnnlaaGreatBc
import Derived.Test.YthjdbmfobmnnlaaGreatBa
import Derived.Test.YthjdbmfobmnnlaaGreatBb
/-
  Layer 4, the document's answer: the last entry.
-/
namespace Go.Proofs.YthjdbmfobmnnlaaGreat
open Go.RowKit
set_option linter.unusedVariables false
end Go.Proofs.YthjdbmfobmnnlaaGreat

/-
  Layer 5: who is a member, which ballot may be.
-/
namespace Go.Proofs.YthjdbmfobmnnlaaGreat
open Go.RowKit
set_option linter.unusedVariables false
abbrev ballotV (t v : Int) : Value := .agg #[.int .i64 t, .int .i64 v]
def memberB (f : Int) : Bool := decide (1 ≤ f) && decide (f ≤ 16)
def mayV (t v : Int) : Bool := decide (0 ≤ t) && decide (t ≤ 1073741824) && (v == 0 || memberB v)
theorem member_any (f : Int) (w : World) : Calls Tryz.prog 175 #[.int .i64 f] w fun e w' => e = .returned (.bool (memberB f)) ∧ w' = w := by
  unfold memberB
  go_enter Tryz.func175, Tryz.ntmps175
  go_wp2
  all_goals (go_ret; refine ⟨ret_bool ?_, rfl⟩)
  all_goals (simp_all; try omega)
set_option maxHeartbeats 1600000 in
theorem mayV_any (t v : Int) (w : World) : Calls Tryz.prog 112 #[ballotV t v] w fun e w' => e = .returned (.bool (mayV t v)) ∧ Below w.heap.size w w' := by
  have HM : Hid (∀ W, Calls Tryz.prog 175 #[.int .i64 v] W fun e w' => e = .returned (.bool (memberB v)) ∧ w' = W) := fun W => member_any v W
  unfold mayV
  generalize memberB v = m at HM
  go_enter Tryz.func112, Tryz.ntmps112
  go_wp2_with (go_at_call 175; refine (HM.out _).mono ?_; rintro e w1 ⟨rfl, rfl⟩)
  all_goals (go_ret; refine ⟨ret_bool ?_, below1 _ _⟩)
  all_goals (simp_all; try omega)
end Go.Proofs.YthjdbmfobmnnlaaGreat

/-
  Layer 5: who is a member, which ballot may be, a ballot behind a term.
-/
namespace Go.Proofs.YthjdbmfobmnnlaaGreat
open Go.RowKit
set_option linter.unusedVariables false
/-- A message: kind, from, to, term, index, its term, what is settled, yes, entries. -/
abbrev Mg := Int × Int × Int × Int × Int × Int × Int × Bool × List En
abbrev msgV (m : Mg) (a : Option Addr) (cap : Nat) : Value := .agg #[.int .i64 m.1, .int .i64 m.2.1, .int .i64 m.2.2.1, .int .i64 m.2.2.2.1, .int .i64 m.2.2.2.2.1, .int .i64 m.2.2.2.2.2.1, .int .i64 m.2.2.2.2.2.2.1, .bool m.2.2.2.2.2.2.2.1, .slice a m.2.2.2.2.2.2.2.2.length cap]
/-- A ballot behind a message of a term. -/
def seeF (t v T : Int) : Int × Int := if t < T ∧ T ≤ 1073741824 then (T, 0) else (t, v)
theorem see_any (t v T : Int) (w : World) : Calls Tryz.prog 75 #[ballotV t v, .int .i64 T] w fun e w' => e = .returned (ballotV (seeF t v T).1 (seeF t v T).2) ∧ Below w.heap.size w w' := by
  by_cases h : t < T ∧ T ≤ 1073741824
  · rw [show seeF t v T = (T, 0) from if_pos h]
    obtain ⟨h1, h2⟩ := h
    go_enter Tryz.func75, Tryz.ntmps75
    go_wp2
    refine bodyPost_ret (v := ballotV T 0) (by simp [results, Tryz.results75, go_sem]) rfl ?_
    exact ⟨rfl, below2 _ _ _⟩
  · rw [show seeF t v T = (t, v) from if_neg h]
    have h1 : T ≤ t ∨ 1073741824 < T := by omega
    clear h
    by_cases h2 : T ≤ t
    · clear h1
      go_enter Tryz.func75, Tryz.ntmps75
      go_wp2
      refine bodyPost_ret (v := ballotV t v) (by simp [results, Tryz.results75, go_sem]) rfl ?_
      exact ⟨rfl, below2 _ _ _⟩
    · have h3 : 1073741824 < T := by omega
      clear h1
      go_enter Tryz.func75, Tryz.ntmps75
      go_wp2
      refine bodyPost_ret (v := ballotV t v) (by simp [results, Tryz.results75, go_sem]) rfl ?_
      exact ⟨rfl, below2 _ _ _⟩
end Go.Proofs.YthjdbmfobmnnlaaGreat

/-
  Layer 5: who is given a vote.
-/
namespace Go.Proofs.YthjdbmfobmnnlaaGreat
open Go.RowKit
set_option linter.unusedVariables false
/-- A ballot behind who asks, and whether it was given. -/
def grantF (t v b bt : Int) (es : List En) (f T I LT : Int) : Int × Int × Bool :=
  if T = (seeF t v T).1 ∧ memberB f = true ∧ ((seeF t v T).2 = 0 ∨ (seeF t v T).2 = f) ∧ newerB I LT (lastF b bt es).1 (lastF b bt es).2 = true then ((seeF t v T).1, f, true) else ((seeF t v T).1, (seeF t v T).2, false)
theorem box9 {w : World} {F : Nat} {c0 c1 c2 c3 c4 c5 c6 c7 c8 : Value} {t : TypeId} (h : w.heap[F]? = some (.cells #[c0, c1, c2, c3, c4, c5, c6, c7, c8] t)) :
    w.cell? ⟨F, 0, none⟩ = some c0 ∧ w.cell? ⟨F, 1, none⟩ = some c1 ∧ w.cell? ⟨F, 2, none⟩ = some c2 ∧ w.cell? ⟨F, 3, none⟩ = some c3 ∧ w.cell? ⟨F, 4, none⟩ = some c4 ∧ w.cell? ⟨F, 5, none⟩ = some c5 ∧ w.cell? ⟨F, 6, none⟩ = some c6 ∧ w.cell? ⟨F, 7, none⟩ = some c7 ∧ w.cell? ⟨F, 8, none⟩ = some c8 :=
  ⟨blk_cell h 0, blk_cell h 1, blk_cell h 2, blk_cell h 3, blk_cell h 4, blk_cell h 5, blk_cell h 6, blk_cell h 7, blk_cell h 8⟩
/-- Four blocks that were made first. -/
theorem alloc4 (w : World) (o1 o2 o3 o4 : Obj) : (((((w.alloc o1).alloc o2).alloc o3).alloc o4).heap[w.heap.size]? = some o1 ∧ ((((w.alloc o1).alloc o2).alloc o3).alloc o4).heap[w.heap.size + 1]? = some o2 ∧
    ((((w.alloc o1).alloc o2).alloc o3).alloc o4).heap[w.heap.size + 2]? = some o3 ∧ ((((w.alloc o1).alloc o2).alloc o3).alloc o4).heap[w.heap.size + 3]? = some o4) ∧ ((((w.alloc o1).alloc o2).alloc o3).alloc o4).heap.size = w.heap.size + 4 ∧ Below w.heap.size w ((((w.alloc o1).alloc o2).alloc o3).alloc o4) := by
  have h3 := blk_new ((w.alloc o1).alloc o2) o3
  have h4 := blk_new (((w.alloc o1).alloc o2).alloc o3) o4
  refine ⟨⟨blk_alloc (blk_alloc (alloc2_fst w o1 o2) o3) o4, blk_alloc (blk_alloc (alloc2_snd w o1 o2) o3) o4, blk_alloc ?_ o4, ?_⟩, by simp, ((below2 w o1 o2).alloc (by simp; omega) o3).alloc (by simp; omega) o4⟩
  · simpa using h3
  · simpa using h4
set_option maxHeartbeats 3200000 in
theorem grant_any (t v b bt : Int) (a : Option Addr) (cap : Nat) (es : List En) (m : Mg) (am : Option Addr) (cm : Nat) (w : World) (hl : LogIn w a cap es) :
    Calls Tryz.prog 118 #[ballotV t v, logV b bt a es.length cap, msgV m am cm] w fun e w' => e = .returned (.tuple #[ballotV (grantF t v b bt es m.2.1 m.2.2.2.1 m.2.2.2.2.1 m.2.2.2.2.2.1).1 (grantF t v b bt es m.2.1 m.2.2.2.1 m.2.2.2.2.1 m.2.2.2.2.2.1).2.1, .bool (grantF t v b bt es m.2.1 m.2.2.2.1 m.2.2.2.2.1 m.2.2.2.2.2.1).2.2]) ∧ Below w.heap.size w w' := by
  obtain ⟨k, f, o, T, I, LT, C, Y, L⟩ := m
  unfold grantF
  simp only
  have HS : Hid (∀ W, Calls Tryz.prog 75 #[ballotV t v, .int .i64 T] W fun e w' => e = .returned (ballotV (seeF t v T).1 (seeF t v T).2) ∧ Below W.heap.size W w') := fun W => see_any t v T W
  have HM : Hid (∀ W, Calls Tryz.prog 175 #[.int .i64 f] W fun e w' => e = .returned (.bool (memberB f)) ∧ w' = W) := fun W => member_any f W
  have HL : Hid (∀ W, Below w.heap.size w W → Calls Tryz.prog 9 #[logV b bt a es.length cap] W fun e w' => e = .returned (.tuple #[.int .i64 (lastF b bt es).1, .int .i64 (lastF b bt es).2]) ∧ Below W.heap.size W w') := fun W h => last_any b bt a cap es W (hl.below h)
  have HN : Hid (∀ W, Calls Tryz.prog 11 #[.int .i64 I, .int .i64 LT, .int .i64 (lastF b bt es).1, .int .i64 (lastF b bt es).2] W fun e w' => e = .returned (.bool (newerB I LT (lastF b bt es).1 (lastF b bt es).2)) ∧ w' = W) := fun W => newer_any I LT _ _ W
  clear hl
  generalize newerB I LT (lastF b bt es).1 (lastF b bt es).2 = N at HN
  generalize lastF b bt es = li at HL HN
  generalize memberB f = M at HM
  generalize seeF t v T = x at HS
  obtain ⟨x, y⟩ := x
  obtain ⟨li, lt⟩ := li
  simp only at HS HL HN ⊢
  generalize L.length = nl
  by_cases h1 : T = x
  · subst h1
    cases M with
    | false =>
      rw [if_neg (by simp)]
      clear HL HN
      go_enter Tryz.func118, Tryz.ntmps118
      go_wp2
      refine scope_fwd 0 rfl ?_
      go_wp2_with (first
        | (go_at_call 75; refine (HS.out _).mono ?_; rintro e w1 ⟨rfl, hb1⟩; obtain ⟨⟨g0, g1, g2, g3⟩, hz, hw0⟩ := alloc4 w _ _ _ _; replace hw0 := hw0.trans (hb1.mono (by rw [hz]; omega)); replace g0 := blk_keep hb1 g0; replace g1 := blk_keep hb1 g1; replace g2 := blk_keep hb1 g2; replace g3 := blk_keep hb1 g3; clear hz hb1; obtain ⟨hc0, hc1, hf0, hf1, hlt0⟩ := box2 g0; obtain ⟨lc0, lc1, lc2, _, _, _, hlt1⟩ := box3 g1; obtain ⟨mc0, mc1, mc2, mc3, mc4, mc5, mc6, mc7, mc8⟩ := box9 g2; obtain ⟨rc0, rc1, rf0, rf1, hlt3⟩ := box2 g3; replace g0 := set2_blk g0 (.int .i64 T) (.int .i64 y); replace g1 := set2_far g1 (G := w.heap.size) (by omega) (.int .i64 T) (.int .i64 y); replace g2 := set2_far g2 (G := w.heap.size) (by omega) (.int .i64 T) (.int .i64 y); replace g3 := set2_far g3 (G := w.heap.size) (by omega) (.int .i64 T) (.int .i64 y); replace hw0 := set2_below hw0 (Nat.le_refl _) (.int .i64 T) (.int .i64 y))
        | (go_at_call 175; refine (HM.out _).mono ?_; rintro e w2 ⟨rfl, rfl⟩))
      refine wp_goto (And.intro rfl ?_)
      go_wp2
      simp only [Exit.jump]
      obtain ⟨k0, k1, _⟩ := box2 (set2_blk g3 (.int .i64 T) (.int .i64 y))
      refine bodyPost_ret (v := .tuple #[ballotV T y, .bool false]) (by simp [results, Tryz.results118, go_sem, k0, k1]) rfl ?_
      exact ⟨rfl, set2_below hw0 (by omega) _ _⟩
    | true =>
      by_cases hy : y = 0
      · subst hy
        cases N with
        | false =>
          rw [if_neg (by simp)]
          go_enter Tryz.func118, Tryz.ntmps118
          go_wp2
          refine scope_fwd 0 rfl ?_
          go_wp2_with (first
            | (go_at_call 75; refine (HS.out _).mono ?_; rintro e w1 ⟨rfl, hb1⟩; obtain ⟨⟨g0, g1, g2, g3⟩, hz, hw0⟩ := alloc4 w _ _ _ _; replace hw0 := hw0.trans (hb1.mono (by rw [hz]; omega)); replace g0 := blk_keep hb1 g0; replace g1 := blk_keep hb1 g1; replace g2 := blk_keep hb1 g2; replace g3 := blk_keep hb1 g3; clear hz hb1; obtain ⟨hc0, hc1, hf0, hf1, hlt0⟩ := box2 g0; obtain ⟨lc0, lc1, lc2, _, _, _, hlt1⟩ := box3 g1; obtain ⟨mc0, mc1, mc2, mc3, mc4, mc5, mc6, mc7, mc8⟩ := box9 g2; obtain ⟨rc0, rc1, rf0, rf1, hlt3⟩ := box2 g3; replace g0 := set2_blk g0 (.int .i64 T) (.int .i64 0); replace g1 := set2_far g1 (G := w.heap.size) (by omega) (.int .i64 T) (.int .i64 0); replace g2 := set2_far g2 (G := w.heap.size) (by omega) (.int .i64 T) (.int .i64 0); replace g3 := set2_far g3 (G := w.heap.size) (by omega) (.int .i64 T) (.int .i64 0); replace hw0 := set2_below hw0 (Nat.le_refl _) (.int .i64 T) (.int .i64 0))
            | (go_at_call 175; refine (HM.out _).mono ?_; rintro e w2 ⟨rfl, rfl⟩)
            | (go_at_call 9; refine (HL.out _ hw0).mono ?_; rintro e w3 ⟨rfl, hb3⟩; replace hw0 := hw0.trans (hb3.mono hw0.size); replace g0 := blk_keep hb3 g0; replace g2 := blk_keep hb3 g2; replace g3 := blk_keep hb3 g3; obtain ⟨hc0, hc1, hf0, hf1, hlt0⟩ := box2 g0; obtain ⟨mc0, mc1, mc2, mc3, mc4, mc5, mc6, mc7, mc8⟩ := box9 g2; obtain ⟨rc0, rc1, rf0, rf1, hlt3⟩ := box2 g3)
            | (go_at_call 11; refine (HN.out _).mono ?_; rintro e w4 ⟨rfl, rfl⟩))
          refine wp_goto (And.intro rfl ?_)
          go_wp2
          simp only [Exit.jump]
          obtain ⟨k0, k1, _⟩ := box2 (set2_blk g3 (.int .i64 T) (.int .i64 0))
          refine bodyPost_ret (v := .tuple #[ballotV T 0, .bool false]) (by simp [results, Tryz.results118, go_sem, k0, k1]) rfl ?_
          exact ⟨rfl, set2_below hw0 (by omega) _ _⟩
        | true =>
          rw [if_pos (by simp)]
          go_enter Tryz.func118, Tryz.ntmps118
          go_wp2
          refine scope_fwd 0 rfl ?_
          go_wp2_with (first
            | (go_at_call 75; refine (HS.out _).mono ?_; rintro e w1 ⟨rfl, hb1⟩; obtain ⟨⟨g0, g1, g2, g3⟩, hz, hw0⟩ := alloc4 w _ _ _ _; replace hw0 := hw0.trans (hb1.mono (by rw [hz]; omega)); replace g0 := blk_keep hb1 g0; replace g1 := blk_keep hb1 g1; replace g2 := blk_keep hb1 g2; replace g3 := blk_keep hb1 g3; clear hz hb1; obtain ⟨hc0, hc1, hf0, hf1, hlt0⟩ := box2 g0; obtain ⟨lc0, lc1, lc2, _, _, _, hlt1⟩ := box3 g1; obtain ⟨mc0, mc1, mc2, mc3, mc4, mc5, mc6, mc7, mc8⟩ := box9 g2; obtain ⟨rc0, rc1, rf0, rf1, hlt3⟩ := box2 g3; replace g0 := set2_blk g0 (.int .i64 T) (.int .i64 0); replace g1 := set2_far g1 (G := w.heap.size) (by omega) (.int .i64 T) (.int .i64 0); replace g2 := set2_far g2 (G := w.heap.size) (by omega) (.int .i64 T) (.int .i64 0); replace g3 := set2_far g3 (G := w.heap.size) (by omega) (.int .i64 T) (.int .i64 0); replace hw0 := set2_below hw0 (Nat.le_refl _) (.int .i64 T) (.int .i64 0))
            | (go_at_call 175; refine (HM.out _).mono ?_; rintro e w2 ⟨rfl, rfl⟩)
            | (go_at_call 9; refine (HL.out _ hw0).mono ?_; rintro e w3 ⟨rfl, hb3⟩; replace hw0 := hw0.trans (hb3.mono hw0.size); replace g0 := blk_keep hb3 g0; replace g2 := blk_keep hb3 g2; replace g3 := blk_keep hb3 g3; obtain ⟨hc0, hc1, hf0, hf1, hlt0⟩ := box2 g0; obtain ⟨mc0, mc1, mc2, mc3, mc4, mc5, mc6, mc7, mc8⟩ := box9 g2; obtain ⟨rc0, rc1, rf0, rf1, hlt3⟩ := box2 g3)
            | (go_at_call 11; refine (HN.out _).mono ?_; rintro e w4 ⟨rfl, rfl⟩))
          simp only [Exit.jump]
          obtain ⟨k0, k1, _⟩ := box2 (set2_blk (blk_far (i := 1) g3 (G := w.heap.size) (by omega) (.int .i64 f)) (.int .i64 T) (.int .i64 f))
          refine bodyPost_ret (v := .tuple #[ballotV T f, .bool true]) (by simp [results, Tryz.results118, go_sem, k0, k1]) rfl ?_
          exact ⟨rfl, set2_below (hw0.setCell (p := ⟨w.heap.size, 1, none⟩) (Nat.le_refl _) _) (by omega) _ _⟩
      have hy1 : (y != 0) = true := by simpa using hy
      by_cases hyf : y = f
      · subst hyf
        clear hy
        cases N with
        | false =>
          rw [if_neg (by simp)]
          go_enter Tryz.func118, Tryz.ntmps118
          go_wp2
          refine scope_fwd 0 rfl ?_
          go_wp2_with (first
            | (go_at_call 75; refine (HS.out _).mono ?_; rintro e w1 ⟨rfl, hb1⟩; obtain ⟨⟨g0, g1, g2, g3⟩, hz, hw0⟩ := alloc4 w _ _ _ _; replace hw0 := hw0.trans (hb1.mono (by rw [hz]; omega)); replace g0 := blk_keep hb1 g0; replace g1 := blk_keep hb1 g1; replace g2 := blk_keep hb1 g2; replace g3 := blk_keep hb1 g3; clear hz hb1; obtain ⟨hc0, hc1, hf0, hf1, hlt0⟩ := box2 g0; obtain ⟨lc0, lc1, lc2, _, _, _, hlt1⟩ := box3 g1; obtain ⟨mc0, mc1, mc2, mc3, mc4, mc5, mc6, mc7, mc8⟩ := box9 g2; obtain ⟨rc0, rc1, rf0, rf1, hlt3⟩ := box2 g3; replace g0 := set2_blk g0 (.int .i64 T) (.int .i64 y); replace g1 := set2_far g1 (G := w.heap.size) (by omega) (.int .i64 T) (.int .i64 y); replace g2 := set2_far g2 (G := w.heap.size) (by omega) (.int .i64 T) (.int .i64 y); replace g3 := set2_far g3 (G := w.heap.size) (by omega) (.int .i64 T) (.int .i64 y); replace hw0 := set2_below hw0 (Nat.le_refl _) (.int .i64 T) (.int .i64 y))
            | (go_at_call 175; refine (HM.out _).mono ?_; rintro e w2 ⟨rfl, rfl⟩)
            | (go_at_call 9; refine (HL.out _ hw0).mono ?_; rintro e w3 ⟨rfl, hb3⟩; replace hw0 := hw0.trans (hb3.mono hw0.size); replace g0 := blk_keep hb3 g0; replace g2 := blk_keep hb3 g2; replace g3 := blk_keep hb3 g3; obtain ⟨hc0, hc1, hf0, hf1, hlt0⟩ := box2 g0; obtain ⟨mc0, mc1, mc2, mc3, mc4, mc5, mc6, mc7, mc8⟩ := box9 g2; obtain ⟨rc0, rc1, rf0, rf1, hlt3⟩ := box2 g3)
            | (go_at_call 11; refine (HN.out _).mono ?_; rintro e w4 ⟨rfl, rfl⟩))
          refine wp_goto (And.intro rfl ?_)
          go_wp2
          simp only [Exit.jump]
          obtain ⟨k0, k1, _⟩ := box2 (set2_blk g3 (.int .i64 T) (.int .i64 y))
          refine bodyPost_ret (v := .tuple #[ballotV T y, .bool false]) (by simp [results, Tryz.results118, go_sem, k0, k1]) rfl ?_
          exact ⟨rfl, set2_below hw0 (by omega) _ _⟩
        | true =>
          rw [if_pos (by simp)]
          go_enter Tryz.func118, Tryz.ntmps118
          go_wp2
          refine scope_fwd 0 rfl ?_
          go_wp2_with (first
            | (go_at_call 75; refine (HS.out _).mono ?_; rintro e w1 ⟨rfl, hb1⟩; obtain ⟨⟨g0, g1, g2, g3⟩, hz, hw0⟩ := alloc4 w _ _ _ _; replace hw0 := hw0.trans (hb1.mono (by rw [hz]; omega)); replace g0 := blk_keep hb1 g0; replace g1 := blk_keep hb1 g1; replace g2 := blk_keep hb1 g2; replace g3 := blk_keep hb1 g3; clear hz hb1; obtain ⟨hc0, hc1, hf0, hf1, hlt0⟩ := box2 g0; obtain ⟨lc0, lc1, lc2, _, _, _, hlt1⟩ := box3 g1; obtain ⟨mc0, mc1, mc2, mc3, mc4, mc5, mc6, mc7, mc8⟩ := box9 g2; obtain ⟨rc0, rc1, rf0, rf1, hlt3⟩ := box2 g3; replace g0 := set2_blk g0 (.int .i64 T) (.int .i64 y); replace g1 := set2_far g1 (G := w.heap.size) (by omega) (.int .i64 T) (.int .i64 y); replace g2 := set2_far g2 (G := w.heap.size) (by omega) (.int .i64 T) (.int .i64 y); replace g3 := set2_far g3 (G := w.heap.size) (by omega) (.int .i64 T) (.int .i64 y); replace hw0 := set2_below hw0 (Nat.le_refl _) (.int .i64 T) (.int .i64 y))
            | (go_at_call 175; refine (HM.out _).mono ?_; rintro e w2 ⟨rfl, rfl⟩)
            | (go_at_call 9; refine (HL.out _ hw0).mono ?_; rintro e w3 ⟨rfl, hb3⟩; replace hw0 := hw0.trans (hb3.mono hw0.size); replace g0 := blk_keep hb3 g0; replace g2 := blk_keep hb3 g2; replace g3 := blk_keep hb3 g3; obtain ⟨hc0, hc1, hf0, hf1, hlt0⟩ := box2 g0; obtain ⟨mc0, mc1, mc2, mc3, mc4, mc5, mc6, mc7, mc8⟩ := box9 g2; obtain ⟨rc0, rc1, rf0, rf1, hlt3⟩ := box2 g3)
            | (go_at_call 11; refine (HN.out _).mono ?_; rintro e w4 ⟨rfl, rfl⟩))
          simp only [Exit.jump]
          obtain ⟨k0, k1, _⟩ := box2 (set2_blk (blk_far (i := 1) g3 (G := w.heap.size) (by omega) (.int .i64 y)) (.int .i64 T) (.int .i64 y))
          refine bodyPost_ret (v := .tuple #[ballotV T y, .bool true]) (by simp [results, Tryz.results118, go_sem, k0, k1]) rfl ?_
          exact ⟨rfl, set2_below (hw0.setCell (p := ⟨w.heap.size, 1, none⟩) (Nat.le_refl _) _) (by omega) _ _⟩
      · have hy2 : (y != f) = true := by simpa using hyf
        rw [if_neg (by rintro ⟨_, _, h, _⟩; omega)]
        clear HL HN hy hyf
        go_enter Tryz.func118, Tryz.ntmps118
        go_wp2
        refine scope_fwd 0 rfl ?_
        go_wp2_with (first
          | (go_at_call 75; refine (HS.out _).mono ?_; rintro e w1 ⟨rfl, hb1⟩; obtain ⟨⟨g0, g1, g2, g3⟩, hz, hw0⟩ := alloc4 w _ _ _ _; replace hw0 := hw0.trans (hb1.mono (by rw [hz]; omega)); replace g0 := blk_keep hb1 g0; replace g1 := blk_keep hb1 g1; replace g2 := blk_keep hb1 g2; replace g3 := blk_keep hb1 g3; clear hz hb1; obtain ⟨hc0, hc1, hf0, hf1, hlt0⟩ := box2 g0; obtain ⟨lc0, lc1, lc2, _, _, _, hlt1⟩ := box3 g1; obtain ⟨mc0, mc1, mc2, mc3, mc4, mc5, mc6, mc7, mc8⟩ := box9 g2; obtain ⟨rc0, rc1, rf0, rf1, hlt3⟩ := box2 g3; replace g0 := set2_blk g0 (.int .i64 T) (.int .i64 y); replace g1 := set2_far g1 (G := w.heap.size) (by omega) (.int .i64 T) (.int .i64 y); replace g2 := set2_far g2 (G := w.heap.size) (by omega) (.int .i64 T) (.int .i64 y); replace g3 := set2_far g3 (G := w.heap.size) (by omega) (.int .i64 T) (.int .i64 y); replace hw0 := set2_below hw0 (Nat.le_refl _) (.int .i64 T) (.int .i64 y))
          | (go_at_call 175; refine (HM.out _).mono ?_; rintro e w2 ⟨rfl, rfl⟩))
        refine wp_goto (And.intro rfl ?_)
        go_wp2
        simp only [Exit.jump]
        obtain ⟨k0, k1, _⟩ := box2 (set2_blk g3 (.int .i64 T) (.int .i64 y))
        refine bodyPost_ret (v := .tuple #[ballotV T y, .bool false]) (by simp [results, Tryz.results118, go_sem, k0, k1]) rfl ?_
        exact ⟨rfl, set2_below hw0 (by omega) _ _⟩
  · have h2 : (T != x) = true := by simpa using h1
    rw [if_neg (by rintro ⟨h, _⟩; exact h1 h)]
    clear h1 HL HN
    go_enter Tryz.func118, Tryz.ntmps118
    go_wp2
    refine scope_fwd 0 rfl ?_
    go_wp2_with (first
      | (go_at_call 75; refine (HS.out _).mono ?_; rintro e w1 ⟨rfl, hb1⟩; obtain ⟨⟨g0, g1, g2, g3⟩, hz, hw0⟩ := alloc4 w _ _ _ _; replace hw0 := hw0.trans (hb1.mono (by rw [hz]; omega)); replace g0 := blk_keep hb1 g0; replace g1 := blk_keep hb1 g1; replace g2 := blk_keep hb1 g2; replace g3 := blk_keep hb1 g3; clear hz hb1; obtain ⟨hc0, hc1, hf0, hf1, hlt0⟩ := box2 g0; obtain ⟨lc0, lc1, lc2, _, _, _, hlt1⟩ := box3 g1; obtain ⟨mc0, mc1, mc2, mc3, mc4, mc5, mc6, mc7, mc8⟩ := box9 g2; obtain ⟨rc0, rc1, rf0, rf1, hlt3⟩ := box2 g3; replace g0 := set2_blk g0 (.int .i64 x) (.int .i64 y); replace g1 := set2_far g1 (G := w.heap.size) (by omega) (.int .i64 x) (.int .i64 y); replace g2 := set2_far g2 (G := w.heap.size) (by omega) (.int .i64 x) (.int .i64 y); replace g3 := set2_far g3 (G := w.heap.size) (by omega) (.int .i64 x) (.int .i64 y); replace hw0 := set2_below hw0 (Nat.le_refl _) (.int .i64 x) (.int .i64 y))
      | (go_at_call 175; refine (HM.out _).mono ?_; rintro e w2 ⟨rfl, rfl⟩))
    refine wp_goto (And.intro rfl ?_)
    go_wp2
    simp only [Exit.jump]
    obtain ⟨k0, k1, _⟩ := box2 (set2_blk g3 (.int .i64 x) (.int .i64 y))
    refine bodyPost_ret (v := .tuple #[ballotV x y, .bool false]) (by simp [results, Tryz.results118, go_sem, k0, k1]) rfl ?_
    exact ⟨rfl, set2_below hw0 (by omega) _ _⟩
end Go.Proofs.YthjdbmfobmnnlaaGreat

/-
  Layer 4: rows of entries, their copies, two lists that are the same.
-/
namespace Go.Proofs.YthjdbmfobmnnlaaGreat
open Go.RowKit
set_option linter.unusedVariables false
instance decCm : DecidableEq Cm := by unfold Cm; infer_instance
instance decEn : DecidableEq En := by unfold En; infer_instance
theorem elemE : Elem Tryz.prog 34 82 (.agg #[.int .i64 0, .int .i64 0, .int .i64 0, .int .i64 0, .int .i64 0, .int .i64 0, .int .i64 0]) 7 56 := ⟨Tryz.underlying34, by kernel_rfl, rfl, by omega⟩
/-- The front part of a row of the call's own. -/
theorem own_front {w : World} {base : Nat} {e : TypeId} {size n cap k : Nat} {A : Option Addr} {xs : List Value} (h : w.ownsRow base e size (.slice A n cap) n xs) (hk : k ≤ n) : w.ownsRow base e size (.slice A k cap) k (xs.take (k * size)) := by
  obtain ⟨hl, h2⟩ := h
  refine ⟨?_, ?_⟩
  · rw [List.length_take, hl]
    exact Nat.min_eq_left (Nat.mul_le_mul_right _ hk)
  · rcases h2 with ⟨hv, hx⟩ | ⟨g, c, cur, hv, hg, hh, hnc, hcm, hcs, hx⟩
    · injection hv with h1 h3 h4
      subst h1 h3 h4
      obtain rfl : k = 0 := by omega
      exact .inl ⟨rfl, by simp⟩
    · injection hv with h1 h3 h4
      subst h1 h4
      refine .inr ⟨g, cap, cur, rfl, hg, hh, Nat.le_trans hk hnc, hcm, hcs, ?_⟩
      rw [← hx, List.take_take, Nat.min_eq_left (Nat.mul_le_mul_right _ hk)]
theorem own_le' {w : World} {base : Nat} {e : TypeId} {size n cap : Nat} {A : Option Addr} {xs : List Value} (h : w.ownsRow base e size (.slice A n cap) n xs) : n ≤ cap := by
  obtain ⟨_, c, hv, hc⟩ := own_form h
  injection hv with _ _ h4
  omega
theorem own_max {w : World} {base : Nat} {e : TypeId} {size n cap : Nat} {A : Option Addr} {xs : List Value} (h : w.ownsRow base e size (.slice A n cap) n xs) : n ≤ maxLen := by
  rcases h.2 with ⟨hv, hx⟩ | ⟨g, c, cur, hv, hg, hh, hnc, hcm, _⟩
  · injection hv with _ h3 _
    unfold maxLen
    omega
  · exact Nat.le_trans hnc hcm
theorem own_nil' {w : World} {base : Nat} {e : TypeId} {size n cap : Nat} {A : Option Addr} {xs : List Value} (h : w.ownsRow base e size (.slice A n cap) n xs) : A = none → n = 0 := fun ha => by
  subst ha
  rcases h.2 with ⟨hv, hx⟩ | ⟨g, c, cur, hv, _⟩
  · injection hv
  · injection hv with h1
    cases h1
theorem LogIn.of_own {w : World} {base cap : Nat} {A : Option Addr} {es : List En} (h : w.ownsRow base 82 7 (.slice A es.length cap) es.length (ensV es)) : LogIn w A cap es := ⟨RowAt.of_own h, own_le' h, own_nil' h, own_max h⟩
set_option maxHeartbeats 1600000 in
theorem clone_any (a : Option Addr) (cap : Nat) (es : List En) (w : World) (hl : LogIn w a cap es) (hs : es.length ≤ 1000000) :
    Calls Tryz.prog 80 #[.slice a es.length cap] w (RetRow 82 7 es.length (ensV es) w) := by
  have q := fun (w : World) (a : Option Addr) (n c n' c' : Nat) => Lib.run_eql_slice_nil w 34 82 a n c n' c' Tryz.underlying34
  cases a with
  | none =>
    have h0 := hl.none_ rfl
    obtain rfl := List.eq_nil_of_length_eq_zero h0
    clear hl hs h0
    go_enter Tryz.func80, Tryz.ntmps80
    go_wp2
    go_ret
    exact ⟨none, 0, rfl, World.ownsRow_nil _ _ _ _, below0 _⟩
  | some p =>
    have HR := Lib.hid hl.row
    have hL := ensV_length es
    have h1 := ensV_one es
    have HL := Lib.hid hL
    clear hl hL
    go_enter Tryz.func80, Tryz.ntmps80
    go_wp2_with (at_builtin; refine wpList_append_row rfl (.tmp 5) (.tmp 6) rfl elemE w.heap.size _ 0 [] (by rfl) (World.ownsRow_made w #[] 0 (Nat.le_refl _) (Nat.zero_le _) (by simp)) (some p) es.length cap (ensV es) (by rfl) HL.out (HR.out.alloc _) h1 (by unfold maxLen; omega) (by omega) (by simp) (fun h => by cases h) ?_; intro a1 c1 w1 hown hg hat)
    simp only [Nat.zero_add, List.nil_append] at hown
    go_ret
    exact ⟨a1, c1, rfl, hown, Below.appended (below1 w _) (World.ownsRow_made (size := 7) w #[] 0 (Nat.le_refl _) (Nat.zero_le _) (by simp)) hg (by simp) (Nat.le_refl _)⟩
theorem take_eq_go {es fs : List En} {k : Nat} (h1 : k < es.length) (h2 : k < fs.length) (h : es.take k = fs.take k) (e : es[k]'h1 = fs[k]'h2) : es.take (k + 1) = fs.take (k + 1) := by
  rw [List.take_add_one, List.take_add_one, h, List.getElem?_eq_getElem h1, List.getElem?_eq_getElem h2, e]
set_option maxHeartbeats 1600000 in
theorem same_any (a : Option Addr) (cap : Nat) (es : List En) (a' : Option Addr) (cap' : Nat) (fs : List En) (w : World) (hr : RowAt w a (ensV es)) (hr' : RowAt w a' (ensV fs)) (hm : es.length ≤ maxLen) :
    Calls Tryz.prog 13 #[.slice a es.length cap, .slice a' fs.length cap'] w fun e w' => e = .returned (.bool (decide (es = fs))) ∧ Below w.heap.size w w' := by
  by_cases hl : es.length = fs.length
  rotate_left 1
  · have hl1 : ((es.length : Int) != (fs.length : Int)) = true := by simp; omega
    have hne : es ≠ fs := fun h => hl (by rw [h])
    rw [decide_eq_false hne]
    clear hr hr' hl hne
    go_enter Tryz.func13, Tryz.ntmps13
    go_wp2
    go_ret
    exact ⟨rfl, below0 _⟩
  have hl1 : ((es.length : Int) != (fs.length : Int)) = false := by simp; omega
  have HL := Lib.hid hl
  have HM := Lib.hid hm
  clear hm
  go_enter Tryz.func13, Tryz.ntmps13
  go_wp2
  clear hl1
  go_loopw [5] (fun i wr => ∃ k : Nat, k ≤ es.length ∧ i = .int .i64 k ∧ Hid (es.take k = fs.take k) ∧ Below w.heap.size w wr) (fun i _ => es.length - (intOf i).toNat)
  case atStart => exact ⟨0, by omega, rfl, rfl, below0 _⟩
  case round =>
    obtain ⟨k, hk, rfl, HE, hb⟩ := hrel
    by_cases hlt : k < es.length
    · have hlt' : k < fs.length := by omega
      obtain ⟨b, off, rfl, hblt, c0, c1, c2, c3, c4, c5, c6⟩ := entry_cells (hr.below hb) hlt
      obtain ⟨b', off', rfl, hblt', d0, d1, d2, d3, d4, d5, d6⟩ := entry_cells (hr'.below hb) hlt'
      have HG : Hid (es[k]'hlt = fs[k]'hlt' → es.take (k + 1) = fs.take (k + 1)) := take_eq_go hlt hlt' HE.out
      have HN : Hid (es = fs → es[k]'hlt = fs[k]'hlt') := fun h => by subst h; rfl
      generalize (es[k]'hlt) = x at c0 c1 c2 c3 c4 c5 c6 HG HN
      generalize (fs[k]'hlt') = y at d0 d1 d2 d3 d4 d5 d6 HG HN
      obtain ⟨x0, x1, x2, x3, x4, x5, x6⟩ := x
      obtain ⟨y0, y1, y2, y3, y4, y5, y6⟩ := y
      simp only at c0 c1 c2 c3 c4 c5 c6 d0 d1 d2 d3 d4 d5 d6
      have hk0 : (0 : Int) ≤ (k : Int) := by omega
      have hk1 : (k : Int) < (es.length : Int) := by omega
      have hk2 : (k : Int) < (fs.length : Int) := by omega
      have HW : Hid (wrap64 ((k : Int) + 1) = ((k + 1 : Nat) : Int)) := wrap_next hlt HM.out
      by_cases hxy : (x0, x1, x2, x3, x4, x5, x6) = (y0, y1, y2, y3, y4, y5, y6)
      · have HG2 := Lib.hid (HG.out hxy)
        simp only [Prod.mk.injEq] at hxy
        obtain ⟨rfl, rfl, rfl, rfl, rfl, rfl, rfl⟩ := hxy
        clear hl hlt' hr hr'
        go_wp2
        go_quiet (fail)
        go_wp2
        go_roundw
        case rel => exact ⟨k + 1, by omega, by rw [HW.out], HG2, Below.many hb _⟩
        case measure => exact measure_next HW.out hlt
      · have HNE : Hid (es ≠ fs) := fun h => hxy (HN.out h)
        have HXY := Lib.hid hxy
        clear hl hlt' hr hr' hxy HN HG
        by_cases h0 : x0 = y0
        rotate_left 1
        · have hq : (x0 == y0) = false := by simpa using h0
          clear h0
          go_wp2
          go_quiet (fail)
          go_wp2
          go_ret
          exact ⟨by rw [decide_eq_false HNE.out]; rfl, Below.many hb _⟩
        subst h0
        by_cases h1 : x1 = y1
        rotate_left 1
        · have hq : (x1 == y1) = false := by simpa using h1
          clear h1
          go_wp2
          go_quiet (fail)
          go_wp2
          go_ret
          exact ⟨by rw [decide_eq_false HNE.out]; rfl, Below.many hb _⟩
        subst h1
        by_cases h2 : x2 = y2
        rotate_left 1
        · have hq : (x2 == y2) = false := by simpa using h2
          clear h2
          go_wp2
          go_quiet (fail)
          go_wp2
          go_ret
          exact ⟨by rw [decide_eq_false HNE.out]; rfl, Below.many hb _⟩
        subst h2
        by_cases h3 : x3 = y3
        rotate_left 1
        · have hq : (x3 == y3) = false := by simpa using h3
          clear h3
          go_wp2
          go_quiet (fail)
          go_wp2
          go_ret
          exact ⟨by rw [decide_eq_false HNE.out]; rfl, Below.many hb _⟩
        subst h3
        by_cases h4 : x4 = y4
        rotate_left 1
        · have hq : (x4 == y4) = false := by simpa using h4
          clear h4
          go_wp2
          go_quiet (fail)
          go_wp2
          go_ret
          exact ⟨by rw [decide_eq_false HNE.out]; rfl, Below.many hb _⟩
        subst h4
        by_cases h5 : x5 = y5
        rotate_left 1
        · have hq : (x5 == y5) = false := by simpa using h5
          clear h5
          go_wp2
          go_quiet (fail)
          go_wp2
          go_ret
          exact ⟨by rw [decide_eq_false HNE.out]; rfl, Below.many hb _⟩
        subst h5
        by_cases h6 : x6 = y6
        rotate_left 1
        · have hq : (x6 == y6) = false := by simpa using h6
          clear h6
          go_wp2
          go_quiet (fail)
          go_wp2
          go_ret
          exact ⟨by rw [decide_eq_false HNE.out]; rfl, Below.many hb _⟩
        subst h6
        exact (HXY.out rfl).elim
    · have hek : k = es.length := by omega
      have hEQ : es = fs := by
        have := HE.out
        rwa [hek, List.take_length, hl, List.take_length] at this
      have HEQ := Lib.hid hEQ
      clear hek hEQ
      go_wp2
      go_ret
      exact ⟨by rw [decide_eq_true HEQ.out]; rfl, hb⟩
end Go.Proofs.YthjdbmfobmnnlaaGreat

/-
  Layer 4: whether an index is one of a log.
-/
namespace Go.Proofs.YthjdbmfobmnnlaaGreat
open Go.RowKit
set_option linter.unusedVariables false
theorem within_any (b t : Int) (a : Option Addr) (cap : Nat) (es : List En) (i : Int) (w : World) (hl : LogIn w a cap es) (hm : mayL b t es = true) :
    Calls Tryz.prog 177 #[logV b t a es.length cap, .int .i64 i] w fun e w' => e = .returned (.int .i64 (if i < b then 9 else if b + es.length < i then 10 else 0)) ∧ Below w.heap.size w w' := by
  have HL : Hid (∀ W, Below w.heap.size w W → Calls Tryz.prog 9 #[logV b t a es.length cap] W fun e w' => e = .returned (.tuple #[.int .i64 (b + es.length), .int .i64 (endT es t)]) ∧ Below W.heap.size W w') := fun W h => by
    have := last_any b t a cap es W (hl.below h)
    unfold lastF at this
    rwa [fairL_yes hm] at this
  clear hl hm
  by_cases h1 : i < b
  · rw [if_pos h1]
    go_enter Tryz.func177, Tryz.ntmps177
    go_wp2_with (go_at_call 9; refine (HL.out _ (below1 _ _)).mono ?_; rintro e w1 ⟨rfl, hb1⟩; have hF := blk_keep hb1 (blk_new _ _); obtain ⟨hc0, hc1, hc2, hf0, hf1, hf2, hlt⟩ := box3 hF)
    go_ret
    exact ⟨rfl, alloc_below hb1⟩
  rw [if_neg h1]
  by_cases h2 : b + (es.length : Int) < i
  · rw [if_pos h2]
    go_enter Tryz.func177, Tryz.ntmps177
    go_wp2_with (go_at_call 9; refine (HL.out _ (below1 _ _)).mono ?_; rintro e w1 ⟨rfl, hb1⟩; have hF := blk_keep hb1 (blk_new _ _); obtain ⟨hc0, hc1, hc2, hf0, hf1, hf2, hlt⟩ := box3 hF)
    go_ret
    exact ⟨rfl, alloc_below hb1⟩
  · rw [if_neg h2]
    go_enter Tryz.func177, Tryz.ntmps177
    go_wp2_with (go_at_call 9; refine (HL.out _ (below1 _ _)).mono ?_; rintro e w1 ⟨rfl, hb1⟩; have hF := blk_keep hb1 (blk_new _ _); obtain ⟨hc0, hc1, hc2, hf0, hf1, hf2, hlt⟩ := box3 hF)
    go_ret
    exact ⟨rfl, alloc_below hb1⟩
end Go.Proofs.YthjdbmfobmnnlaaGreat

/-
  Layer 4, the document's answer: two logs that are the same.
-/
namespace Go.Proofs.YthjdbmfobmnnlaaGreat
open Go.RowKit
set_option linter.unusedVariables false
end Go.Proofs.YthjdbmfobmnnlaaGreat
