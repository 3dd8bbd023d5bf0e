/-
  A world that is another but for one block.
-/
import Derived.Test.YtlejbhgginolgaaBoxes
namespace Go.Proofs.Ytlejbhgginolgaa
open Go.RowKit
set_option linter.unusedVariables false
/-- 'w'' is 'w' but for block R, and for blocks that are new. -/
structure Only (R : Nat) (w w' : World) : Prop where
  os : w'.os = w.os
  tape : w'.tape = w.tape
  output : w'.output = w.output
  size : w.heap.size ≤ w'.heap.size
  block : ∀ k, k < w.heap.size → k ≠ R → w'.heap[k]? = w.heap[k]?
theorem Only.refl (R : Nat) (w : World) : Only R w w := ⟨rfl, rfl, rfl, Nat.le_refl _, fun _ _ _ => rfl⟩
theorem Only.trans {R : Nat} {a b c : World} (h : Only R a b) (k : Only R b c) : Only R a c :=
  ⟨k.os.trans h.os, k.tape.trans h.tape, k.output.trans h.output, Nat.le_trans h.size k.size, fun i hi hne => (k.block i (Nat.lt_of_lt_of_le hi h.size) hne).trans (h.block i hi hne)⟩
theorem Only.many {R : Nat} {a w : World} (h : Only R a w) (n : Nat) : Only R a (w.drewN n) := ⟨h.os, h.tape, h.output, h.size, h.block⟩
theorem Only.setCell {R : Nat} {a w : World} (h : Only R a w) (i : Nat) (v : Value) : Only R a (w.setCell ⟨R, i, none⟩ v) :=
  ⟨h.os, h.tape, h.output, by simpa [World.setCell] using h.size, fun k hk hne => by rw [Below.heap_setCell _ _ _ _ (by simpa using hne)]; exact h.block k hk hne⟩
theorem Only.of_below {R : Nat} {w w' : World} (h : Below w.heap.size w w') : Only R w w' := ⟨h.os, h.tape, h.output, h.size, fun k hk _ => h.block k hk⟩
theorem Only.below {R B : Nat} {w0 w w' : World} (h : Only R w w') (h0 : Below B w0 w) (hR : B ≤ R) (hB : B ≤ w.heap.size) : Below B w0 w' :=
  ⟨h.os.trans h0.os, h.tape.trans h0.tape, h.output.trans h0.output, Nat.le_trans h0.size h.size, fun k hk => (h.block k (Nat.lt_of_lt_of_le hk hB) (by omega)).trans (h0.block k hk)⟩
theorem Only.keep {R F : Nat} {w w' : World} {o : Obj} (h : Only R w w') (hF : w.heap[F]? = some o) (hne : F ≠ R) : w'.heap[F]? = some o := by rw [h.block F (blk_lt hF) hne]; exact hF
/-- A row of one's own that does not lie in block R. -/
theorem own_only {w w' : World} {R base : Nat} {e : TypeId} {size : Nat} {v : Value} {n : Nat} {xs : List Value} (h : w.ownsRow base e size v n xs) (hb : Only R w w') (hR : R < base) : w'.ownsRow base e size v n xs := by
  refine ⟨h.1, ?_⟩
  rcases h.2 with h2 | ⟨g, cap, cur, hv, hg, hh, r⟩
  · exact .inl h2
  · exact .inr ⟨g, cap, cur, hv, hg, by rw [hb.block g (Nat.lt_of_not_le fun hle => by rw [Array.getElem?_eq_none hle] at hh; cases hh) (by omega)]; exact hh, r⟩
end Go.Proofs.Ytlejbhgginolgaa
