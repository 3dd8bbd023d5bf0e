/-
  A world that is another but for some blocks, and for what is new.
-/
import Derived.Test.YtlejbhgginolgaaOnly
namespace Go.Proofs.Ytlejbhgginolgaa
open Go.RowKit
set_option linter.unusedVariables false
/-- 'w'' is 'w' but for the blocks S, and for blocks that are new. -/
structure Chg (S : List Nat) (w w' : World) : Prop where
  os : w'.os = w.os
  tape : w'.tape = w.tape
  output : w'.output = w.output
  size : w.heap.size ≤ w'.heap.size
  block : ∀ k, k < w.heap.size → k ∉ S → w'.heap[k]? = w.heap[k]?
theorem Chg.refl (S : List Nat) (w : World) : Chg S w w := ⟨rfl, rfl, rfl, Nat.le_refl _, fun _ _ _ => rfl⟩
theorem Chg.trans {S T : List Nat} {a b c : World} (h : Chg S a b) (k : Chg T b c) (hT : ∀ x ∈ T, x ∈ S ∨ a.heap.size ≤ x) : Chg S a c :=
  ⟨k.os.trans h.os, k.tape.trans h.tape, k.output.trans h.output, Nat.le_trans h.size k.size, fun i hi hne => (k.block i (Nat.lt_of_lt_of_le hi h.size) fun hc => by rcases hT i hc with h1 | h1; exact hne h1; omega).trans (h.block i hi hne)⟩
theorem Chg.mono {S T : List Nat} {a b : World} (h : Chg S a b) (hs : ∀ x ∈ S, x ∈ T ∨ a.heap.size ≤ x) : Chg T a b :=
  ⟨h.os, h.tape, h.output, h.size, fun k hk hne => h.block k hk fun hc => by rcases hs k hc with h1 | h1; exact hne h1; omega⟩
theorem Chg.of_below {S : List Nat} {w w' : World} (h : Below w.heap.size w w') : Chg S w w' := ⟨h.os, h.tape, h.output, h.size, fun k hk _ => h.block k hk⟩
theorem Chg.below {S : List Nat} {a w w' : World} (h : Chg S a w) (hb : Below w.heap.size w w') : Chg S a w' := h.trans (T := []) (Chg.of_below hb) (fun x hx => by cases hx)
theorem Chg.pre {S : List Nat} {a w w' : World} (hb : Below a.heap.size a w) (h : Chg S w w') : Chg S a w' := (Chg.of_below hb).trans h (fun x hx => .inl hx)
theorem Chg.of_belowB {S : List Nat} {B : Nat} {w w' : World} (h : Below B w w') (hS : ∀ x, B ≤ x → x < w.heap.size → x ∈ S) : Chg S w w' := ⟨h.os, h.tape, h.output, h.size, fun k hk hne => h.block k (Nat.lt_of_not_le fun hc => hne (hS k hc hk))⟩
theorem Chg.many {S : List Nat} {a w : World} (h : Chg S a w) (n : Nat) : Chg S a (w.drewN n) := ⟨h.os, h.tape, h.output, h.size, h.block⟩
theorem Chg.drew {S : List Nat} {a w : World} (h : Chg S a w) : Chg S a w.drew := ⟨h.os, h.tape, h.output, h.size, h.block⟩
theorem Chg.setCell {S : List Nat} {a w : World} (h : Chg S a w) {b : Nat} (hb : b ∈ S ∨ a.heap.size ≤ b) (i : Nat) (v : Value) : Chg S a (w.setCell ⟨b, i, none⟩ v) :=
  ⟨h.os, h.tape, h.output, by simpa [World.setCell] using h.size, fun k hk hne => by
    have : k ≠ b := fun e => by subst e; rcases hb with h1 | h1; exact hne h1; omega
    rw [Below.heap_setCell _ _ _ _ (by simpa using this)]; exact h.block k hk hne⟩
theorem Chg.alloc {S : List Nat} {a w : World} (h : Chg S a w) (o : Obj) : Chg S a (w.alloc o) := h.below (below1 w o)
theorem Chg.grown {S : List Nat} {a w w' : World} {row : Option Nat} (h : Chg S a w) (hg : w.grownBy w' row) (hr : ∀ b, row = some b → b ∈ S ∨ a.heap.size ≤ b) : Chg S a w' :=
  ⟨hg.os.trans h.os, hg.tape.trans h.tape, hg.output.trans h.output, Nat.le_trans h.size hg.size, fun k hk hne => (hg.block k (Nat.lt_of_lt_of_le hk h.size) fun hc => by rcases hr k hc.symm with h1 | h1; exact hne h1; omega).trans (h.block k hk hne)⟩
theorem Chg.keep {S : List Nat} {F : Nat} {w w' : World} {o : Obj} (h : Chg S w w') (hF : w.heap[F]? = some o) (hne : F ∉ S) : w'.heap[F]? = some o := by rw [h.block F (blk_lt hF) hne]; exact hF
theorem Chg.to_below {S : List Nat} {B : Nat} {w w' : World} (h : Chg S w w') (hS : ∀ x ∈ S, B ≤ x) (hB : B ≤ w.heap.size) : Below B w w' := ⟨h.os, h.tape, h.output, h.size, fun k hk => h.block k (Nat.lt_of_lt_of_le hk hB) fun hc => by have := hS k hc; omega⟩
theorem Chg.cell {S : List Nat} {w w' : World} (h : Chg S w w') {b o : Nat} (hb : b < w.heap.size) (hne : b ∉ S) : w'.cell? ⟨b, o, none⟩ = w.cell? ⟨b, o, none⟩ := by
  have := h.block b hb hne
  simp only [World.cell?, this]
/-- The block of an address. -/
def blkOf : Option Addr → List Nat
  | none => []
  | some p => [p.block]
theorem RowAt.chg {S : List Nat} {w w' : World} {A : Option Addr} {xs : List Value} (h : RowAt w A xs) (hc : Chg S w w') (hne : ∀ x ∈ blkOf A, x ∉ S) : RowAt w' A xs := by
  rcases h with h | ⟨b, off, rfl, hlt, hx⟩
  · exact .inl h
  · exact .inr ⟨b, off, rfl, Nat.lt_of_lt_of_le hlt hc.size, fun i u hi => by rw [hc.cell hlt (hne b (by simp [blkOf]))]; exact hx i u hi⟩
theorem own_chg {S : List Nat} {w w' : World} {base : Nat} {e : TypeId} {size : Nat} {A : Option Addr} {m cap : Nat} {n : Nat} {xs : List Value} (h : w.ownsRow base e size (.slice A m cap) n xs) (hc : Chg S w w') (hne : ∀ x ∈ blkOf A, x ∉ S) : w'.ownsRow base e size (.slice A m cap) n xs := by
  refine ⟨h.1, ?_⟩
  rcases h.2 with h2 | ⟨g, cap, cur, hv, hg, hh, r⟩
  · exact .inl h2
  · injection hv with h1 h2 h3
    subst h1
    exact .inr ⟨g, cap, cur, by rw [h2, h3], hg, hc.keep hh (hne g (by simp [blkOf])), r⟩
/-- A row's own block lies below the heap's end. -/
theorem own_blk {w : World} {base : Nat} {e : TypeId} {size : Nat} {A : Option Addr} {m cap : Nat} {n : Nat} {xs : List Value} (h : w.ownsRow base e size (.slice A m cap) n xs) : ∀ x ∈ blkOf A, base ≤ x ∧ x < w.heap.size := by
  intro x hx
  rcases h.2 with ⟨h2, _⟩ | ⟨g, cap, cur, hv, hg, hh, r⟩
  · injection h2 with h1
    subst h1
    cases hx
  · injection hv with h1 h2 h3
    subst h1
    simp only [blkOf, List.mem_singleton] at hx
    subst hx
    exact ⟨hg, blk_lt hh⟩
/-- A row's base may be any number that its own block does not lie below. -/
theorem own_rebase {w : World} {base base' : Nat} {e : TypeId} {size : Nat} {A : Option Addr} {m cap : Nat} {n : Nat} {xs : List Value} (h : w.ownsRow base e size (.slice A m cap) n xs) (hb : ∀ x ∈ blkOf A, base' ≤ x) : w.ownsRow base' e size (.slice A m cap) n xs := by
  refine ⟨h.1, ?_⟩
  rcases h.2 with h2 | ⟨g, cap, cur, hv, hg, r⟩
  · exact .inl h2
  · injection hv with h1 h2 h3
    subst h1
    exact .inr ⟨g, cap, cur, by rw [h2, h3], hb g (by simp [blkOf]), r⟩
end Go.Proofs.Ytlejbhgginolgaa
