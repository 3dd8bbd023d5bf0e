/-
  Blocks that a call made itself: what they hold behind other calls and behind stores.
-/
import Derived.Test.YtlejbhgginolgaaBaseR
namespace Go.Proofs.Ytlejbhgginolgaa
open Go.RowKit
/-! ### Blocks that the call made itself -/
theorem blk_lt {W : World} {F : Nat} {o : Obj} (h : W.heap[F]? = some o) : F < W.heap.size := by
  rcases Nat.lt_or_ge F W.heap.size with h' | h'
  · exact h'
  · simp [Array.getElem?_eq_none h'] at h
theorem blk_keep {W w1 : World} {F : Nat} {o : Obj} (hb : Below W.heap.size W w1) (h : W.heap[F]? = some o) : w1.heap[F]? = some o := by rw [hb.block F (blk_lt h)]; exact h
theorem blk_new (w : World) (o : Obj) : (w.alloc o).heap[w.heap.size]? = some o := heap_alloc_new w o
theorem blk_alloc {w : World} {F : Nat} {o : Obj} (h : w.heap[F]? = some o) (o' : Obj) : (w.alloc o').heap[F]? = some o := by rw [Below.heap_alloc w o' F (blk_lt h)]; exact h
theorem alloc2_fst (w : World) (o1 o2 : Obj) : ((w.alloc o1).alloc o2).heap[w.heap.size]? = some o1 := blk_alloc (blk_new w o1) o2
theorem alloc2_snd (w : World) (o1 o2 : Obj) : ((w.alloc o1).alloc o2).heap[w.heap.size + 1]? = some o2 := by
  have := blk_new (w.alloc o1) o2
  simpa using this
theorem blk_cell {w : World} {F : Nat} {cs : Array Value} {t : TypeId} (h : w.heap[F]? = some (.cells cs t)) (i : Nat) : w.cell? ⟨F, i, none⟩ = cs[i]? := cell_of_row _ _ _ _ _ (0, 0) h
theorem blk_frozen {w : World} {F : Nat} {cs : Array Value} {t : TypeId} (h : w.heap[F]? = some (.cells cs t)) (i : Nat) : w.frozen? ⟨F, i, none⟩ = false := frozen_of_row _ _ _ _ _ h
theorem blk_set {w : World} {F i : Nat} {cs : Array Value} {t : TypeId} (h : w.heap[F]? = some (.cells cs t)) (v : Value) : (w.setCell ⟨F, i, none⟩ v).heap[F]? = some (.cells (cs.setIfInBounds i v) t) := by
  simp [World.setCell, Array.getElem?_modify, h]
theorem blk_far {w : World} {F G i : Nat} {o : Obj} (h : w.heap[F]? = some o) (hne : F ≠ G) (v : Value) : (w.setCell ⟨G, i, none⟩ v).heap[F]? = some o := by
  rw [Below.heap_setCell _ _ _ _ hne]; exact h
theorem box3 {w : World} {F : Nat} {x y z : Value} {t : TypeId} (h : w.heap[F]? = some (.cells #[x, y, z] t)) :
    w.cell? ⟨F, 0, none⟩ = some x ∧ w.cell? ⟨F, 1, none⟩ = some y ∧ w.cell? ⟨F, 2, none⟩ = some z ∧ w.frozen? ⟨F, 0, none⟩ = false ∧ w.frozen? ⟨F, 1, none⟩ = false ∧ w.frozen? ⟨F, 2, none⟩ = false ∧ F < w.heap.size :=
  ⟨blk_cell h 0, blk_cell h 1, blk_cell h 2, blk_frozen h 0, blk_frozen h 1, blk_frozen h 2, blk_lt h⟩
theorem box2 {w : World} {F : Nat} {x y : Value} {t : TypeId} (h : w.heap[F]? = some (.cells #[x, y] t)) :
    w.cell? ⟨F, 0, none⟩ = some x ∧ w.cell? ⟨F, 1, none⟩ = some y ∧ w.frozen? ⟨F, 0, none⟩ = false ∧ w.frozen? ⟨F, 1, none⟩ = false ∧ F < w.heap.size :=
  ⟨blk_cell h 0, blk_cell h 1, blk_frozen h 0, blk_frozen h 1, blk_lt h⟩
/-- Three cells written one by one. -/
abbrev set3 (w : World) (F : Nat) (x y z : Value) : World := ((w.setCell ⟨F, 0, none⟩ x).setCell ⟨F, 1, none⟩ y).setCell ⟨F, 2, none⟩ z
theorem set3_blk {w : World} {F : Nat} {x y z : Value} {t : TypeId} (h : w.heap[F]? = some (.cells #[x, y, z] t)) (x' y' z' : Value) : (set3 w F x' y' z').heap[F]? = some (.cells #[x', y', z'] t) := blk_set (blk_set (blk_set h x') y') z'
theorem set3_below {B : Nat} {w0 w : World} {F : Nat} (h : Below B w0 w) (hF : B ≤ F) (x y z : Value) : Below B w0 (set3 w F x y z) := ((h.setCell (p := ⟨F, 0, none⟩) hF x).setCell (p := ⟨F, 1, none⟩) hF y).setCell (p := ⟨F, 2, none⟩) hF z
theorem set3_far {w : World} {F G : Nat} {o : Obj} (h : w.heap[F]? = some o) (hne : F ≠ G) (x y z : Value) : (set3 w G x y z).heap[F]? = some o := blk_far (blk_far (blk_far h hne x) hne y) hne z
abbrev set2 (w : World) (F : Nat) (x y : Value) : World := (w.setCell ⟨F, 0, none⟩ x).setCell ⟨F, 1, none⟩ y
theorem set2_blk {w : World} {F : Nat} {x y : Value} {t : TypeId} (h : w.heap[F]? = some (.cells #[x, y] t)) (x' y' : Value) : (set2 w F x' y').heap[F]? = some (.cells #[x', y'] t) := blk_set (blk_set h x') y'
theorem set2_below {B : Nat} {w0 w : World} {F : Nat} (h : Below B w0 w) (hF : B ≤ F) (x y : Value) : Below B w0 (set2 w F x y) := (h.setCell (p := ⟨F, 0, none⟩) hF x).setCell (p := ⟨F, 1, none⟩) hF y
theorem set2_far {w : World} {F G : Nat} {o : Obj} (h : w.heap[F]? = some o) (hne : F ≠ G) (x y : Value) : (set2 w G x y).heap[F]? = some o := blk_far (blk_far h hne x) hne y
theorem below0 (w : World) : Below w.heap.size w w := Below.refl _ _
theorem below1 (w : World) (o : Obj) : Below w.heap.size w (w.alloc o) := (Below.refl _ _).alloc (Nat.le_refl _) o
theorem below2 (w : World) (o1 o2 : Obj) : Below w.heap.size w ((w.alloc o1).alloc o2) := (below1 w o1).alloc (by simp) o2
theorem alloc2_below {w w1 : World} {o1 o2 : Obj} (hb : Below ((w.alloc o1).alloc o2).heap.size ((w.alloc o1).alloc o2) w1) : Below w.heap.size w w1 := (below2 w o1 o2).trans (hb.mono (by simp; omega))
theorem Below.many {B : Nat} {a w : World} (h : Below B a w) (n : Nat) : Below B a (w.drewN n) := ⟨h.os, h.tape, h.output, h.size, h.block⟩
/-- A scope with one label that is jumped to from ahead alone: the text behind the label stands at each jump. -/
theorem scope_fwd {P : Program} {c R : Code} {Q : Exit → Act → World → Prop} {a : Act} {w : World} (l : Nat) (hf : findLabel c l = some (.seq .skip R))
    (first : c.wp P (Exit.jump l (fun a w => R.wp P (Exit.jump l (fun _ _ => False) Q) a w) Q) a w) : (Code.scope c).wp P Q a w :=
  wp_scope_jumps l (fun a w => R.wp P (Exit.jump l (fun _ _ => False) Q) a w) (fun _ _ => 0) hf first fun a w h => wp_seq (wp_skip (Code.wp_mono (fun e a' w' q => by
    cases e with
    | goto l' => exact ⟨q.1, q.2.elim⟩
    | normal => exact q
    | exit id => exact q
    | ret => exact q
    | panic ch => exact q
    | outgrown => exact q) h))
/-- Three blocks that were made first. -/
theorem alloc3 (w : World) (o1 o2 o3 : Obj) : ((((w.alloc o1).alloc o2).alloc o3).heap[w.heap.size]? = some o1 ∧ (((w.alloc o1).alloc o2).alloc o3).heap[w.heap.size + 1]? = some o2 ∧
    (((w.alloc o1).alloc o2).alloc o3).heap[w.heap.size + 2]? = some o3) ∧ (((w.alloc o1).alloc o2).alloc o3).heap.size = w.heap.size + 3 ∧ Below w.heap.size w (((w.alloc o1).alloc o2).alloc o3) := by
  have h3 := blk_new ((w.alloc o1).alloc o2) o3
  refine ⟨⟨blk_alloc (alloc2_fst w o1 o2) o3, blk_alloc (alloc2_snd w o1 o2) o3, ?_⟩, by simp, (below2 w o1 o2).alloc (by simp; omega) o3⟩
  simpa using h3
theorem blk_many {w : World} {F : Nat} {o : Obj} (h : w.heap[F]? = some o) (n : Nat) : (w.drewN n).heap[F]? = some o := h
theorem own_many {w : World} {base : Nat} {e : TypeId} {size n : Nat} {v : Value} {xs : List Value} (h : w.ownsRow base e size v n xs) (k : Nat) : (w.drewN k).ownsRow base e size v n xs := h
theorem own_set3 {w : World} {base F : Nat} {e : TypeId} {size n : Nat} {v : Value} {xs : List Value} (h : w.ownsRow base e size v n xs) (hF : F < base) (x y z : Value) : (set3 w F x y z).ownsRow base e size v n xs :=
  ownsRow_setCell_below (ownsRow_setCell_below (ownsRow_setCell_below h (a := ⟨F, 0, none⟩) hF x) (a := ⟨F, 1, none⟩) hF y) (a := ⟨F, 2, none⟩) hF z
theorem blk_grown {w w1 : World} {row : Option Nat} {F : Nat} {o : Obj} (hg : w.grownBy w1 row) (h : w.heap[F]? = some o) (hne : row ≠ some F) : w1.heap[F]? = some o := by
  rw [hg.block F (blk_lt h) (fun e => hne e.symm)]; exact h
theorem blk_drawn {w : World} {F : Nat} {o : Obj} (h : w.heap[F]? = some o) : w.drew.heap[F]? = some o := h
theorem own_drawn {w : World} {base : Nat} {e : TypeId} {size n : Nat} {v : Value} {xs : List Value} (h : w.ownsRow base e size v n xs) : w.drew.ownsRow base e size v n xs := h
theorem wrap_id {x : Int} (h0 : -9223372036854775808 ≤ x) (h1 : x ≤ 9223372036854775807) : IntKind.i64.wrap x = x := by rw [IntKind.wrap_i64]; omega
theorem wrap64_id {x : Int} (h0 : -9223372036854775808 ≤ x) (h1 : x ≤ 9223372036854775807) : wrap64 x = x := by unfold wrap64; omega
end Go.Proofs.Ytlejbhgginolgaa
