/-
  Slices of frames among the arguments.
-/
import Derived.Test.YtbonockefjenaaaOpenS
import Derived.Test.YtbonockefjenaaaOpenFrame
import Derived.Test.YtbonockefjenaaaFrameRun
namespace Go.Proofs.Ytbonockefjenaaa
open Go.RowKit
open Go.ChangeShapes Go.WideShapes Go.Deep Go.Joins
theorem frames_build {w : World} : ∀ (n : Nat) (xs : List Value), xs.length = n * 2 → (∀ i, i < n → ∃ x y f, xs[i * 2]? = some x ∧ xs[i * 2 + 1]? = some y ∧ FrameIs (fun _ => True) w x y f) → ∃ fs : List Fr, fs.length = n ∧ FramesAt (fun _ => True) w xs fs
  | 0, xs, h, _ => by
    have : xs = [] := List.eq_nil_of_length_eq_zero (by omega)
    subst this
    exact ⟨[], rfl, trivial⟩
  | n + 1, [], h, _ => by simp at h
  | n + 1, [x], h, _ => by simp at h; omega
  | n + 1, x :: y :: xs, h, hr => by
    obtain ⟨fs, hl, hf⟩ := frames_build n xs (by simp at h; omega) fun i hi => by
      obtain ⟨x', y', f, h1, h2, h3⟩ := hr (i + 1) (by omega)
      rw [show (i + 1) * 2 = i * 2 + 1 + 1 by omega] at h1 h2
      exact ⟨x', y', f, by simpa using h1, by simpa using h2, h3⟩
    obtain ⟨x', y', f, h1, h2, h3⟩ := hr 0 (by omega)
    simp at h1 h2
    subst h1 h2
    exact ⟨f :: fs, by simp [hl], h3, hf⟩
section
variable {H : Type} {enc : TypeId × Value → H} {w : World}
theorem open_frames_arg {r : Reach} {b0 : Nat} {v : Value} {d : DataW H} {p : List MemPlace} (hv : Value.okWide Try.prog w r b0 36 v) (h : DataW.Trod enc Try.prog w 0 (fun _ => true) true 36 v d p) :
    ∃ a cap fs, v = .slice a fs.length cap ∧ FramesIn w a cap fs := by
  obtain ⟨a, l, c, rfl⟩ := okWide_slice Try.underlying36 hv
  obtain ⟨fuel, hf⟩ := h
  obtain ⟨a', len, cap, xs, hcs, hl, hm, hn, hr, hx, hi⟩ := open_structs Try.underlying36 Try.underlying24 (by kernel_rfl) (by kernel_rfl) (by decide) (show DataW.trod enc Try.prog w 0 (fun _ => true) true fuel 36 [.slice a l c] = some (d, p) by simpa [Value.cells] using hf)
  simp only [List.cons.injEq, Value.slice.injEq, and_true] at hcs
  obtain ⟨rfl, rfl, rfl⟩ := hcs
  obtain ⟨fs, hfl, hfs⟩ := frames_build (w := w) l xs hx fun i hil => by
    obtain ⟨v0, y0, n0, hv0, hy0⟩ := hi i hil 0 _ rfl
    obtain ⟨v1, y1, n1, hv1, hy1⟩ := hi i hil 1 _ rfl
    obtain ⟨k, e0, _, _⟩ := DataW.trod_int Try.underlying3 hy0
    obtain ⟨a2, cap2, bs, rfl, hb⟩ := open_bytes_cells hy1
    simp at e0
    subst e0
    exact ⟨_, _, (k, bs), hv0, hv1, rfl, a2, cap2, rfl, hb.none_, hb.cap, hb.cells, fun _ _ _ _ => trivial⟩
  subst hfl
  exact ⟨a, c, fs, rfl, ⟨xs, hr, hfs⟩, hl, hn⟩
end
end Go.Proofs.Ytbonockefjenaaa
