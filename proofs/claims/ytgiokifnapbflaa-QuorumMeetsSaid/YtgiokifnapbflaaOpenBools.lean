/-
  Slices of bools among the arguments.
-/
import Derived.Test.YtgiokifnapbflaaBase
import Derived.Lib.SmallJoins
import Derived.ProofKit
import Derived.Deep.Grids
namespace Go.Proofs.Ytgiokifnapbflaa
open Go.RowKit
open Go.ChangeShapes Go.WideShapes Go.Deep Go.Joins
set_option linter.unusedVariables false
def boolV (b : Bool) : Value := .bool b
/-- A slice of bools that came in. -/
structure BoolsIn (w : World) (a : Option Addr) (cap : Nat) (ns : List Bool) : Prop where
  cells : RowAt w a (ns.map boolV)
  cap : ns.length ≤ cap
  none_ : a = none → ns.length = 0
theorem bools_at {w : World} {a : Option Addr} {ns : List Bool} (h : RowAt w a (ns.map boolV)) {k : Nat} (hk : k < ns.length) : ∃ b off, a = some ⟨b, off, none⟩ ∧ b < w.heap.size ∧ w.cell? ⟨b, off + k, none⟩ = some (.bool (ns[k]'hk)) := by
  refine RowAt.at h (u := .bool (ns[k]'hk)) ?_
  rw [List.getElem?_map, List.getElem?_eq_getElem hk]
  rfl
section
variable {H : Type} {enc : TypeId × Value → H} {w : World}
theorem open_bools_cells {fuel : Nat} {v : Value} {y : DataW H × List MemPlace} (h : DataW.trod enc Try.prog w 0 (fun _ => true) true fuel 22 [v] = some y) :
    ∃ a cap ns, v = .slice a ns.length cap ∧ BoolsIn w a cap ns := by
  rcases open_bools Try.underlying22 Try.underlying4 (by kernel_rfl) h with ⟨hcs, _⟩ | ⟨x, l, c, B, hcs, _, hl, hm, _, hcell⟩
  · simp at hcs
    subst hcs
    exact ⟨none, 0, [], rfl, ⟨RowAt.nil, Nat.le_refl _, fun _ => rfl⟩⟩
  · simp at hcs
    subst hcs
    have hlen : ((List.range l).map B).length = l := by simp
    refine ⟨some x, c, (List.range l).map B, by rw [hlen], ⟨?_, by rw [hlen]; exact hl, fun h => by cases h⟩⟩
    by_cases h0 : l = 0
    · subst h0; exact .inl (by simp)
    · obtain ⟨b, off, spot⟩ := x
      have h1 := hcell 0 (by omega)
      have hspot : spot = none := by simpa [Addr.add] using World.cell?_spot h1
      subst hspot
      have hadd : ∀ j, (⟨b, off, none⟩ : Addr).add j = ⟨b, off + j, none⟩ := fun j => by unfold Addr.add; split <;> simp_all
      refine .inr ⟨b, off, rfl, ?_, fun i u hi => ?_⟩
      · rw [hadd] at h1
        exact block_lt_of_cell h1
      · have hil : i < l := by
          rcases Nat.lt_or_ge i l with h | h
          · exact h
          · rw [List.getElem?_eq_none (by simpa using h)] at hi; cases hi
        rw [List.getElem?_map, List.getElem?_map, List.getElem?_range hil] at hi
        have hu : boolV (B i) = u := by simpa using hi
        rw [← hu, ← hadd, hcell i (by omega)]
        rfl
theorem open_bools_arg {r : Reach} {b0 : Nat} {v : Value} {d : DataW H} {p : List MemPlace} (hv : Value.okWide Try.prog w r b0 22 v) (h : DataW.Trod enc Try.prog w 0 (fun _ => true) true 22 v d p) :
    ∃ a cap ns, v = .slice a ns.length cap ∧ BoolsIn w a cap ns := by
  obtain ⟨a, l, c, rfl⟩ := okWide_slice Try.underlying22 hv
  obtain ⟨fuel, hf⟩ := h
  exact open_bools_cells (by simpa [Value.cells] using hf)
end
end Go.Proofs.Ytgiokifnapbflaa
