/-
  Slices of numbers among the arguments.
-/
import Derived.Test.YtnljdkglncmfaaaGreatBa
import Derived.Lib.SmallJoins
import Derived.ProofKit
namespace Go.Proofs.YtnljdkglncmfaaaGreat
open Go.RowKit
open Go.ChangeShapes Go.WideShapes Go.Deep Go.Joins
theorem row_ints {w : World} {a : Option Addr} {len cap : Nat} {zs : List Int}
    (h : (a = none ∧ len = 0 ∧ cap = 0 ∧ zs = []) ∨ ∃ x, a = some x ∧ len ≤ cap ∧ cap ≤ maxLen ∧ zs.length = cap ∧ (∀ i, i < zs.length → w.cell? (x.add i) = some (.int .i64 (zs.getD i 0))) ∧ ∀ n ∈ zs, (Lit.int .i64 n).wf = true) :
    ∃ ns : List Int, len = ns.length ∧ IntsIn w a cap ns := by
  rcases h with ⟨rfl, rfl, rfl, rfl⟩ | ⟨x, rfl, hl, hm, hz, hc, hw⟩
  · exact ⟨[], rfl, ⟨RowAt.nil, Nat.le_refl _, fun _ => rfl, fun n hn => by cases hn⟩⟩
  · have hlen : (zs.take len).length = len := by rw [List.length_take]; omega
    refine ⟨zs.take len, hlen.symm, ⟨?_, by omega, (fun h => by cases h), fun n hn => hw n (List.mem_of_mem_take hn)⟩⟩
    by_cases h0 : len = 0
    · subst h0
      exact .inl (by simp)
    · obtain ⟨b, off, spot⟩ := x
      have h1 := hc 0 (by omega)
      have hspot : spot = none := by simpa [Addr.add] using World.cell?_spot h1
      subst hspot
      have hadd : ∀ j, (⟨b, off, none⟩ : Addr).add j = ⟨b, off + j, none⟩ := fun j => by unfold Addr.add; split <;> simp_all
      refine .inr ⟨b, off, rfl, ?_, fun i u hi => ?_⟩
      · rw [hadd] at h1
        exact block_lt_of_cell h1
      · have hi1 : i < (zs.take len).length := by
          rcases Nat.lt_or_ge i (zs.take len).length with h | h
          · exact h
          · rw [List.getElem?_eq_none (by rw [List.length_map]; exact h)] at hi; cases hi
        rw [List.length_take] at hi1
        have hi2 : i < zs.length := by omega
        rw [List.getElem?_map, List.getElem?_take, if_pos (by omega), List.getElem?_eq_getElem hi2] at hi
        have hu : intV zs[i] = u := by simpa using hi
        rw [← hu, ← hadd, hc i hi2, List.getD_eq_getElem?_getD, List.getElem?_eq_getElem hi2]
        rfl
section
variable {H : Type} {enc : TypeId × Value → H} {w : World}
theorem open_ints_cells {fuel : Nat} {v : Value} {y : DataW H × List MemPlace} (h : DataW.trod enc Tryz.prog w 0 (fun _ => true) true fuel 28 [v] = some y) :
    ∃ a cap ns, v = .slice a ns.length cap ∧ IntsIn w a cap ns := by
  rcases open_ints Tryz.underlying28 Tryz.underlying3 (by kernel_rfl) h with ⟨hcs, _⟩ | ⟨x, l, c, zs, hcs, _, hl, hm, hz, _, hcell, hwz⟩
  · simp at hcs
    subst hcs
    exact ⟨none, 0, [], rfl, ⟨RowAt.nil, Nat.le_refl _, fun _ => rfl, fun n hn => by cases hn⟩⟩
  · simp at hcs
    subst hcs
    obtain ⟨ns, h1, h2⟩ := row_ints (w := w) (a := some x) (len := l) (cap := c) (zs := zs) (.inr ⟨x, rfl, hl, hm, by simpa using hz, hcell, hwz⟩)
    subst h1
    exact ⟨some x, c, ns, rfl, h2⟩
set_option maxRecDepth 100000 in
theorem open_ints_arg {r : Reach} {b0 : Nat} {v : Value} {d : DataW H} {p : List MemPlace} (hv : Value.okWide Tryz.prog w r b0 28 v) (h : DataW.Trod enc Tryz.prog w 0 (fun _ => true) true 28 v d p) :
    ∃ a cap ns, v = .slice a ns.length cap ∧ IntsIn w a cap ns := by
  obtain ⟨a, l, c, rfl⟩ := okWide_slice Tryz.underlying28 hv
  obtain ⟨fuel, hf⟩ := h
  exact open_ints_cells (by simpa [Value.cells] using hf)
end
end Go.Proofs.YtnljdkglncmfaaaGreat
