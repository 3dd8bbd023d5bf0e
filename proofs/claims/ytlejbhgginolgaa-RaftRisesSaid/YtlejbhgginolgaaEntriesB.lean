/-
  Layer 4: which log may be.
-/
import Derived.Test.YtlejbhgginolgaaEntriesA
namespace Go.Proofs.Ytlejbhgginolgaa
open Go.RowKit
set_option linter.unusedVariables false
/-- A log that came in, or that is the call's own. -/
structure LogIn (w : World) (a : Option Addr) (cap : Nat) (es : List En) : Prop where
  row : RowAt w a (ensV es)
  cap : es.length ≤ cap
  none_ : a = none → es.length = 0
  max : es.length ≤ maxLen
theorem LogIn.below {w w' : World} {a : Option Addr} {cap : Nat} {es : List En} (h : LogIn w a cap es) (hb : Below w.heap.size w w') : LogIn w' a cap es := ⟨h.row.below hb, h.cap, h.none_, h.max⟩
abbrev logV (b t : Int) (a : Option Addr) (n cap : Nat) : Value := .agg #[.int .i64 b, .int .i64 t, .slice a n cap]
theorem may_no {b t : Int} {es : List En} (h : ¬ (0 ≤ b ∧ b ≤ 1099511627776 ∧ 0 ≤ t ∧ t ≤ 1073741824 ∧ (b = 0 → t = 0) ∧ es.length ≤ 64)) : mayL b t es = false := by
  cases hm : mayL b t es with
  | false => rfl
  | true => obtain ⟨h1, h2, h3, h4, h5, h6, _⟩ := mayL_true hm; exact absurd ⟨h1, h2, h3, h4, h5, h6⟩ h
theorem may_yes {b t : Int} {es : List En} (h : 0 ≤ b ∧ b ≤ 1099511627776 ∧ 0 ≤ t ∧ t ≤ 1073741824 ∧ (b = 0 → t = 0) ∧ es.length ≤ 64) : mayL b t es = rising es t := by
  unfold mayL
  rw [decide_eq_true h]
  rfl
/-- A block of three cells that was made ahead of what followed. -/
theorem three_cells {w w1 : World} {x y z : Value} {t : TypeId} (hb : Below (w.alloc (.cells #[x, y, z] t)).heap.size (w.alloc (.cells #[x, y, z] t)) w1) :
    w1.cell? ⟨w.heap.size, 0, none⟩ = some x ∧ w1.cell? ⟨w.heap.size, 1, none⟩ = some y ∧ w1.cell? ⟨w.heap.size, 2, none⟩ = some z ∧ w1.frozen? ⟨w.heap.size, 0, none⟩ = false ∧ w1.frozen? ⟨w.heap.size, 1, none⟩ = false ∧ w1.frozen? ⟨w.heap.size, 2, none⟩ = false ∧ w.heap.size < w1.heap.size := by
  have hs : w.heap.size < (w.alloc (.cells #[x, y, z] t)).heap.size := by simp
  have e : ∀ i, w1.cell? ⟨w.heap.size, i, none⟩ = (#[x, y, z] : Array Value)[i]? := fun i => by
    rw [hb.cell (p := ⟨w.heap.size, i, none⟩) hs]
    exact cell_of_row _ _ _ _ _ (0, 0) (heap_alloc_new w _)
  have g : ∀ i, w1.frozen? ⟨w.heap.size, i, none⟩ = false := fun i => by
    rw [hb.frozen (p := ⟨w.heap.size, i, none⟩) hs]
    exact frozen_of_row _ _ _ _ _ (heap_alloc_new w _)
  exact ⟨e 0, e 1, e 2, g 0, g 1, g 2, Nat.lt_of_lt_of_le hs hb.size⟩
set_option maxHeartbeats 1600000 in
theorem may_any (b t : Int) (a : Option Addr) (cap : Nat) (es : List En) (w : World) (hl : LogIn w a cap es) :
    Calls Try.prog 23 #[logV b t a es.length cap] w fun e w' => e = .returned (.bool (mayL b t es)) ∧ Below w.heap.size w w' := by
  by_cases h0 : 0 ≤ b ∧ b ≤ 1099511627776 ∧ 0 ≤ t ∧ t ≤ 1073741824 ∧ (b = 0 → t = 0) ∧ es.length ≤ 64
  · rw [may_yes h0]
    obtain ⟨h1, h2, h3, h4, h5, h6⟩ := h0
    have HR : Hid (∀ o, Calls Try.prog 43 #[.slice a es.length cap, .int .i64 t] (w.alloc o) fun e w' => e = .returned (.bool (rising es t)) ∧ Below (w.alloc o).heap.size (w.alloc o) w') := fun o => rising_any a cap es t _ (hl.row.alloc o) hl.max
    generalize rising es t = R at HR
    have h6' : (es.length : Int) ≤ 64 := by omega
    clear hl
    by_cases hz : b = 0
    · obtain rfl := h5 hz
      subst hz
      clear h5 h1 h2 h3 h4
      go_enter Try.func23, Try.ntmps23
      go_wp2_with (go_at_call 43; refine (HR.out _).mono ?_; rintro e w1 ⟨rfl, hb1⟩)
      go_ret
      exact ⟨rfl, alloc_below hb1⟩
    · clear h5
      go_enter Try.func23, Try.ntmps23
      go_wp2_with (go_at_call 43; refine (HR.out _).mono ?_; rintro e w1 ⟨rfl, hb1⟩)
      go_ret
      exact ⟨rfl, alloc_below hb1⟩
  · rw [may_no h0]
    have hi0 : (0 : Int) ≤ es.length := by omega
    have H0 : Hid (0 ≤ b → b ≤ 1099511627776 → 0 ≤ t → t ≤ 1073741824 → ¬ (b = 0 ∧ t ≠ 0) → (64 : Int) < es.length) := by intro g1 g2 g3 g4 g5; omega
    clear hl h0
    by_cases h1 : b < 0
    · go_enter Try.func23, Try.ntmps23
      go_wp2
      go_ret
      exact ⟨rfl, (Below.refl _ _).alloc (Nat.le_refl _) _⟩
    by_cases h2 : 1099511627776 < b
    · go_enter Try.func23, Try.ntmps23
      go_wp2
      go_ret
      exact ⟨rfl, (Below.refl _ _).alloc (Nat.le_refl _) _⟩
    by_cases h3 : t < 0
    · go_enter Try.func23, Try.ntmps23
      go_wp2
      go_ret
      exact ⟨rfl, (Below.refl _ _).alloc (Nat.le_refl _) _⟩
    by_cases h4 : 1073741824 < t
    · go_enter Try.func23, Try.ntmps23
      go_wp2
      go_ret
      exact ⟨rfl, (Below.refl _ _).alloc (Nat.le_refl _) _⟩
    by_cases h5 : b = 0
    · subst h5
      by_cases h6 : t = 0
      · subst h6
        have h7 := H0.out (by omega) (by omega) (by omega) (by omega) (by simp)
        clear H0 h1 h2 h3 h4
        go_enter Try.func23, Try.ntmps23
        go_wp2
        go_ret
        exact ⟨rfl, (Below.refl _ _).alloc (Nat.le_refl _) _⟩
      · have h7 : (t != 0) = true := by simpa using h6
        clear h1 h2
        go_enter Try.func23, Try.ntmps23
        go_wp2
        go_ret
        exact ⟨rfl, (Below.refl _ _).alloc (Nat.le_refl _) _⟩
    · have h7 := H0.out (by omega) (by omega) (by omega) (by omega) (fun h => h5 h.1)
      have h8 : (b == 0) = false := by simpa using h5
      clear H0
      go_enter Try.func23, Try.ntmps23
      go_wp2
      go_ret
      exact ⟨rfl, (Below.refl _ _).alloc (Nat.le_refl _) _⟩
end Go.Proofs.Ytlejbhgginolgaa
