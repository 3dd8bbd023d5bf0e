/-
  Frames among the arguments, as they are read.
-/
import Derived.Test.YtbonockefjenaaaOpen
import Derived.Test.YtbonockefjenaaaFrameMath
namespace Go.Proofs.Ytbonockefjenaaa
open Go.RowKit Go.ChangeShapes Go.WideShapes Go.Deep Go.Joins

section
variable {H : Type} {enc : TypeId × Value → H} {w : World}
theorem open_frame_arg {r : Reach} {b0 : Nat} {v : Value} {d : DataW H} {p : List MemPlace} (hv : Value.okWide Try.prog w r b0 24 v) (h : DataW.Trod enc Try.prog w 0 (fun _ => true) true 24 v d p) :
    ∃ k a cap bs, v = .agg #[.int .i64 k, .slice a bs.length cap] ∧ BytesIn w a cap bs := by
  obtain ⟨c0, c1, y0, y1, m, rfl, _, _, hy0, hy1⟩ := open_agg2 Try.underlying24 (by kernel_rfl) (by kernel_rfl) hv h
  obtain ⟨k, e0, _, _⟩ := DataW.trod_int Try.underlying3 hy0
  obtain ⟨a, cap, bs, rfl, hb⟩ := open_bytes_cells hy1
  simp at e0
  subst e0
  exact ⟨k, a, cap, bs, rfl, hb⟩
end
end Go.Proofs.Ytbonockefjenaaa
