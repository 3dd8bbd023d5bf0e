/-
  Slices of numbers.
-/
import Derived.Test.YtlejbhgginolgaaBase
import Derived.Test.YtlejbhgginolgaaBaseR
namespace Go.Proofs.Ytlejbhgginolgaa
open Go.RowKit
set_option linter.unusedVariables false
/-! ### Slices of numbers -/
def intV (n : Int) : Value := .int .i64 n
/-- What a slice of numbers reads. -/
def CellsI (w : World) (a : Option Addr) (ns : List Int) : Prop := RowAt w a (ns.map intV)
theorem CellsI.at {w : World} {a : Option Addr} {ns : List Int} (h : CellsI w a ns) {k : Nat} (hk : k < ns.length) : ∃ b off, a = some ⟨b, off, none⟩ ∧ b < w.heap.size ∧ w.cell? ⟨b, off + k, none⟩ = some (.int .i64 (ns[k]'hk)) := by
  refine RowAt.at h (u := .int .i64 (ns[k]'hk)) ?_
  rw [List.getElem?_map, List.getElem?_eq_getElem hk]
  rfl
theorem CellsI.below {w w1 : World} {a : Option Addr} {ns : List Int} (h : CellsI w a ns) (hb : Below w.heap.size w w1) : CellsI w1 a ns := RowAt.below h hb
/-- A slice of numbers that came in. -/
structure IntsIn (w : World) (a : Option Addr) (cap : Nat) (ns : List Int) : Prop where
  cells : CellsI w a ns
  cap : ns.length ≤ cap
  none_ : a = none → ns.length = 0
  wf : ∀ n ∈ ns, (Lit.int .i64 n).wf = true
theorem elemI : Elem Try.prog 81 3 (.int .i64 0) 1 8 := ⟨Try.underlying81, by kernel_rfl, rfl, by omega⟩
theorem intV_one (ns : List Int) : ∀ u ∈ ns.map intV, u.oneCell' = true := by
  intro u hu
  obtain ⟨b, _, rfl⟩ := List.mem_map.1 hu
  rfl
end Go.Proofs.Ytlejbhgginolgaa
