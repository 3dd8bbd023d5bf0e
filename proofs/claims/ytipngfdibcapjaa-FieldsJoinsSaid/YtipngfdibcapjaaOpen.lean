/-
  Arguments out of the frame's own words: slices of bytes, as they are read.
-/
import Derived.Test.YtipngfdibcapjaaRowBytes
import Derived.Lib.SmallJoins
import Derived.ProofKit
namespace Go.Proofs.Ytipngfdibcapjaa
open Go.RowKit Go.ChangeShapes Go.WideShapes Go.Deep Go.Joins

/-- A slice of bytes that came in. -/
structure BytesIn (w : World) (a : Option Addr) (cap : Nat) (bs : List UInt8) : Prop where
  cells : CellsB w a bs
  cap : bs.length ≤ cap
  none_ : a = none → bs.length = 0
section
variable {H : Type} {enc : TypeId × Value → H} {w : World}
theorem open_bytes_cells {fuel : Nat} {v : Value} {y : DataW H × List MemPlace} (h : DataW.trod enc Try.prog w 0 (fun _ => true) true fuel 23 [v] = some y) :
    ∃ a cap bs, v = .slice a bs.length cap ∧ BytesIn w a cap bs := by
  rcases open_ints Try.underlying23 Try.underlying5 (by kernel_rfl) h with ⟨hcs, _⟩ | ⟨x, l, c, zs, hcs, _, hl, hm, hz, _, hcell, hwz⟩
  · simp at hcs
    subst hcs
    exact ⟨none, 0, [], rfl, ⟨RowAt.nil, Nat.le_refl _, fun _ => rfl⟩⟩
  · simp at hcs
    subst hcs
    obtain ⟨bs, h1, h2, h3, h4⟩ := row_bytes (w := w) (a := some x) (len := l) (cap := c) (zs := zs) (.inr ⟨x, rfl, hl, hm, by simpa using hz, hcell, hwz⟩)
    subst h1
    exact ⟨some x, c, bs, rfl, ⟨h2, h3, h4⟩⟩
theorem open_bytes_arg {r : Reach} {b0 : Nat} {v : Value} {d : DataW H} {p : List MemPlace} (hv : Value.okWide Try.prog w r b0 23 v) (h : DataW.Trod enc Try.prog w 0 (fun _ => true) true 23 v d p) :
    ∃ a cap bs, v = .slice a bs.length cap ∧ BytesIn w a cap bs := by
  obtain ⟨a, l, c, rfl⟩ := okWide_slice Try.underlying23 hv
  obtain ⟨fuel, hf⟩ := h
  exact open_bytes_cells (by simpa [Value.cells] using hf)
end
end Go.Proofs.Ytipngfdibcapjaa
