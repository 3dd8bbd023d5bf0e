/-
  Lists of fields among the arguments.
-/
import Derived.Test.YtipngfdibcapjaaFieldsE
import Derived.Test.YtipngfdibcapjaaOpenFields
import Derived.Test.YtipngfdibcapjaaOpenS
namespace Go.Proofs.Ytipngfdibcapjaa
open Go.RowKit
open Go.ChangeShapes Go.WideShapes Go.Deep Go.Joins
set_option linter.unusedVariables false
def flC (f : Fl) (a : Option Addr) (c : Nat) (d : Option Addr) (e : Nat) : List Value := [.slice a f.1.length c, .slice d f.2.length e]
/-- Fields that came in. -/
structure FieldsIn (w : World) (a : Option Addr) (cap : Nat) (fs : List Fl) : Prop where
  at_ : ∀ i f, fs[i]? = some f → ∃ b off an cn ad cd, a = some ⟨b, off, none⟩ ∧ b < w.heap.size ∧ (∀ j u, (flC f an cn ad cd)[j]? = some u → w.cell? ⟨b, off + (i * 2 + j), none⟩ = some u) ∧ IntsIn w an cn f.1 ∧ BytesIn w ad cd f.2
  cap : fs.length ≤ cap
  none_ : a = none → fs.length = 0
  max : fs.length ≤ maxLen
section
variable {H : Type} {enc : TypeId × Value → H} {w : World}
theorem cells_ints : Try.prog.cellsOf 22 = 1 := by kernel_rfl
theorem cells_bytes : Try.prog.cellsOf 23 = 1 := by kernel_rfl
theorem cells_fields : Try.prog.cellsOf 25 = 2 := by kernel_rfl
theorem list2 {cs : List Value} (h : cs.length = 2) : ∃ c0 c1, cs = [c0, c1] := by
  match cs, h with
  | [c0, c1], _ => exact ⟨c0, c1, rfl⟩
theorem addr_add (b off j : Nat) : (⟨b, off, none⟩ : Addr).add j = ⟨b, off + j, none⟩ := by unfold Addr.add; split <;> simp_all
theorem open_fl {fuel : Nat} {cs : List Value} {y : DataW H × List MemPlace} (h : DataW.trod enc Try.prog w 0 (fun _ => true) true fuel 25 cs = some y) :
    ∃ (f : Fl) (a : Option Addr) (c : Nat) (d : Option Addr) (e : Nat), cs = flC f a c d e ∧ IntsIn w a c f.1 ∧ BytesIn w d e f.2 := by
  obtain ⟨xs, n, _, _, hl, hx, hf⟩ := DataW.trod_struct Try.underlying25 h
  rw [cells_fields] at hl
  obtain ⟨c0, c1, rfl⟩ := list2 hl
  have h0 : DataW.trod enc Try.prog w 0 (fun _ => true) true n 22 (([c0, c1].drop 0).take (Try.prog.cellsOf 22)) = xs[0]? := hf 0 _ rfl
  have h1 : DataW.trod enc Try.prog w 0 (fun _ => true) true n 23 (([c0, c1].drop 1).take (Try.prog.cellsOf 23)) = xs[1]? := hf 1 _ rfl
  rw [List.getElem?_eq_getElem (show 0 < xs.length by rw [hx]; decide), cells_ints] at h0
  rw [List.getElem?_eq_getElem (show 1 < xs.length by rw [hx]; decide), cells_bytes] at h1
  obtain ⟨a, c, ns, rfl, hn⟩ := open_ints_cells (v := c0) h0
  obtain ⟨d, e, bs, rfl, hb⟩ := open_bytes_cells (v := c1) h1
  exact ⟨(ns, bs), a, c, d, e, rfl, hn, hb⟩
theorem open_fieldss_arg {r : Reach} {b0 : Nat} {v : Value} {d : DataW H} {p : List MemPlace} (hv : Value.okWide Try.prog w r b0 35 v) (h : DataW.Trod enc Try.prog w 0 (fun _ => true) true 35 v d p) :
    ∃ a cap fs, v = .slice a fs.length cap ∧ FieldsIn w a cap fs := by
  obtain ⟨a, l, c, rfl⟩ := okWide_slice Try.underlying35 hv
  obtain ⟨fuel, hf⟩ := h
  rcases open_slice Try.underlying35 (show DataW.trod enc Try.prog w 0 (fun _ => true) true fuel 35 [.slice a l c] = some (d, p) by simpa [Value.cells] using hf) with ⟨h1, _⟩ | ⟨a', len, cap, m, n, D, Pl, hcs, hb, hl, hm, hmm, hx, hi⟩
  · simp at h1
    obtain ⟨rfl, rfl, rfl⟩ := h1
    exact ⟨none, 0, [], rfl, ⟨fun i m h => by simp at h, Nat.le_refl _, fun _ => rfl, Nat.zero_le _⟩⟩
  · simp at hcs
    obtain ⟨rfl, rfl, rfl⟩ := hcs
    obtain ⟨ms, hel, hes⟩ := list_choose (R := fun i (f : Fl) => ∃ an cn ad cd, (∀ j u, (flC f an cn ad cd)[j]? = some u → w.cell? (a'.add (i * 2 + j)) = some u) ∧ IntsIn w an cn f.1 ∧ BytesIn w ad cd f.2) l fun i hil => by
      obtain ⟨cs', hc, ht⟩ := hi i (by rw [hmm]; simp; omega)
      rw [cells_fields] at hc
      obtain ⟨f, an, cn, ad, cd, rfl, h1, h2⟩ := open_fl ht
      obtain ⟨_, _, hat⟩ := World.cells?_some hc
      refine ⟨f, an, cn, ad, cd, fun j u hj => ?_, h1, h2⟩
      have hj2 : j < 2 := by
        rcases Nat.lt_or_ge j 2 with h | h
        · exact h
        · rw [List.getElem?_eq_none (by exact h)] at hj; cases hj
      rw [← Go.Deep.add_add, hat j hj2, hj]
    subst hel
    refine ⟨some a', c, ms, rfl, ⟨fun i m him => ?_, hl, (fun h => by cases h), Nat.le_trans hl hm⟩⟩
    obtain ⟨an, cn, ad, cd, h1, h2, h3⟩ := hes i m him
    obtain ⟨b, off, spot⟩ := a'
    have h0 := h1 0 _ rfl
    have hlt0 : 0 < ms.length := Nat.lt_of_le_of_lt (Nat.zero_le i) (List.getElem?_eq_some_iff.1 him).1
    obtain ⟨_, _, _, _, z1, _⟩ := hes 0 _ (List.getElem?_eq_getElem hlt0)
    have hspot : spot = none := by simpa [Addr.add] using World.cell?_spot (z1 0 _ rfl)
    subst hspot
    rw [addr_add] at h0
    exact ⟨b, off, an, cn, ad, cd, rfl, block_lt_of_cell h0, fun j u hj => by have := h1 j u hj; rwa [addr_add] at this, h2, h3⟩
end
/-- One of them: its cells, its numbers, its bytes. -/
theorem fields_cells {w : World} {a : Option Addr} {cap : Nat} {fs : List Fl} (h : FieldsIn w a cap fs) {k : Nat} (hk : k < fs.length) :
    ∃ b off an cn ad cd, a = some ⟨b, off, none⟩ ∧ b < w.heap.size ∧ w.cell? ⟨b, off + k * 2, none⟩ = some (.slice an (fs[k]).1.length cn) ∧ w.cell? ⟨b, off + k * 2 + 1, none⟩ = some (.slice ad (fs[k]).2.length cd) ∧ IntsIn w an cn (fs[k]).1 ∧ BytesIn w ad cd (fs[k]).2 := by
  obtain ⟨b, off, an, cn, ad, cd, h1, h2, h3, h4, h5⟩ := h.at_ k _ (List.getElem?_eq_getElem hk)
  exact ⟨b, off, an, cn, ad, cd, h1, h2, h3 0 _ rfl, by have := h3 1 _ rfl; rwa [← Nat.add_assoc] at this, h4, h5⟩
end Go.Proofs.Ytipngfdibcapjaa
