/-
  Slices of structs of one-cell fields, as they come in.
-/
import Derived.Test.YtlejbhgginolgaaBase
import Derived.Lib.SmallJoins
import Derived.ProofKit
import Derived.Deep.Slices
import Derived.Deep.Fields
import Derived.ChangeSame
namespace Go.Proofs.Ytlejbhgginolgaa
open Go.RowKit
open Go.ChangeShapes Go.WideShapes Go.Deep Go.Joins
section
variable {H : Type} {enc : TypeId × Value → H} {P : Program} {w : World} {base : Nat}
theorem open_structs {t e : TypeId} {fs : Array Field} {fuel : Nat} {cs : List Value} {x : DataW H × List MemPlace} (ht : P.underlying t = some (.slice e)) (he : P.underlying e = some (.struct fs))
    (hone : oneCellFields P fs = true) (hC : P.cellsOf e = fs.size) (h0 : 0 < fs.size) (h : DataW.trod enc P w base (fun _ => true) true fuel t cs = some x) :
    ∃ (a : Option Addr) (len cap : Nat) (xs : List Value), cs = [.slice a len cap] ∧ len ≤ cap ∧ cap ≤ maxLen ∧ (a = none → len = 0) ∧ RowAt w a xs ∧ xs.length = len * fs.size ∧
      ∀ i, i < len → ∀ (j : Nat) (f : Field), fs[j]? = some f → ∃ (v : Value) (y : DataW H × List MemPlace) (n : Nat), xs[i * fs.size + j]? = some v ∧ DataW.trod enc P w base (fun _ => true) true n f.type [v] = some y := by
  rcases open_slice ht h with ⟨h1, _⟩ | ⟨a, len, cap, m, n, D, Pl, hcs, hb, hl, hm, hmm, hx, hi⟩
  · exact ⟨none, 0, 0, [], h1, Nat.le_refl _, Nat.zero_le _, fun _ => rfl, RowAt.nil, by simp, fun i hi => by omega⟩
  · have hcell : ∀ i, i < len → ∀ (j : Nat) (f : Field), fs[j]? = some f → ∃ (v : Value) (y : DataW H × List MemPlace) (n : Nat), w.cell? (a.add (i * fs.size + j)) = some v ∧ DataW.trod enc P w base (fun _ => true) true n f.type [v] = some y := by
      intro i hil j f hj
      have him : i < m := by rw [hmm]; simp; omega
      obtain ⟨cs', hc, ht'⟩ := hi i him
      rw [hC] at hc
      obtain ⟨ys, n', hn', hy, hlen, hyl, hf⟩ := DataW.trod_struct he ht'
      obtain ⟨_, hcl, hat⟩ := World.cells?_some hc
      obtain ⟨ho, hk⟩ := hone_of hone j f hj
      have hjl : j < fs.size := (Array.getElem?_eq_some_iff.1 hj).1
      have hcell := hat j hjl
      have hv : cs'[j]? = some (cs'[j]'(by omega)) := List.getElem?_eq_getElem (by omega)
      have h1 := hf j f hj
      rw [ho, hk] at h1
      have hone' : (cs'.drop j).take 1 = [cs'[j]'(by omega)] := by
        rw [List.drop_eq_getElem_cons (by omega)]
        rfl
      rw [hone'] at h1
      have hys : ys[j]? = some (ys[j]'(by omega)) := List.getElem?_eq_getElem (by omega)
      refine ⟨_, _, _, ?_, h1.trans hys⟩
      rw [← Go.Deep.add_add, hcell, hv]
    by_cases h1 : len = 0
    · exact ⟨some a, len, cap, [], hcs, hl, hm, fun h => (by cases h), RowAt.nil, by simp [h1], fun i hi => by omega⟩
    · obtain ⟨b, off, spot⟩ := a
      have hall : ∀ k, k < len * fs.size → ∃ v, w.cell? ((⟨b, off, spot⟩ : Addr).add k) = some v := by
        intro k hk
        have hm : k % fs.size < fs.size := Nat.mod_lt _ h0
        obtain ⟨v, _, _, hv, _⟩ := hcell (k / fs.size) ((Nat.div_lt_iff_lt_mul h0).2 hk) (k % fs.size) _ (Array.getElem?_eq_getElem hm)
        rw [Nat.div_add_mod' k fs.size] at hv
        exact ⟨v, hv⟩
      obtain ⟨v0, hv0⟩ := hall 0 (Nat.mul_pos (by omega) h0)
      have hspot : spot = none := by simpa [Addr.add] using World.cell?_spot hv0
      subst hspot
      have hadd : ∀ j, (⟨b, off, none⟩ : Addr).add j = ⟨b, off + j, none⟩ := fun j => by unfold Addr.add; split <;> simp_all
      have hlt : b < w.heap.size := by rw [hadd] at hv0; exact block_lt_of_cell hv0
      have hget : ∀ k, k < len * fs.size → ((List.range (len * fs.size)).map fun k => (w.cell? ⟨b, off + k, none⟩).getD undef)[k]? = w.cell? ⟨b, off + k, none⟩ := by
        intro k hk
        obtain ⟨v, hv⟩ := hall k hk
        rw [hadd] at hv
        rw [List.getElem?_map, List.getElem?_range hk, hv]; simp [hv]
      refine ⟨some ⟨b, off, none⟩, len, cap, (List.range (len * fs.size)).map fun k => (w.cell? ⟨b, off + k, none⟩).getD undef, hcs, hl, hm, fun h => (by cases h), .inr ⟨b, off, rfl, hlt, fun i u hu => ?_⟩, by simp, fun i hi j f hj => ?_⟩
      · have hi : i < len * fs.size := by
          rcases Nat.lt_or_ge i (len * fs.size) with h | h
          · exact h
          · rw [List.getElem?_eq_none (by simpa using h)] at hu; cases hu
        rw [hget i hi] at hu
        exact hu
      · obtain ⟨v, y, n, hv, hy⟩ := hcell i hi j f hj
        have hjl : j < fs.size := (Array.getElem?_eq_some_iff.1 hj).1
        refine ⟨v, y, n, ?_, hy⟩
        rw [hget _ (by have := Nat.mul_le_mul_right fs.size (show i + 1 ≤ len from hi); rw [Nat.add_mul] at this; omega)]
        rw [hadd] at hv
        exact hv
/-- Elements that are there one by one are there as a list. -/
theorem list_choose {α : Type} {R : Nat → α → Prop} : ∀ (n : Nat), (∀ i, i < n → ∃ x, R i x) → ∃ l : List α, l.length = n ∧ ∀ i x, l[i]? = some x → R i x
  | 0, _ => ⟨[], rfl, fun i x h => by simp at h⟩
  | n + 1, h => by
    obtain ⟨l, hl, hr⟩ := list_choose n fun i hi => h i (by omega)
    obtain ⟨x, hx⟩ := h n (by omega)
    refine ⟨l ++ [x], by simp [hl], fun i y hy => ?_⟩
    rw [List.getElem?_append] at hy
    by_cases h1 : i < l.length
    · rw [if_pos h1] at hy; exact hr i y hy
    · rw [if_neg h1] at hy
      have : i - l.length = 0 := by
        rcases Nat.eq_zero_or_pos (i - l.length) with h | h
        · exact h
        · rw [List.getElem?_eq_none (by simp; omega)] at hy; cases hy
      rw [this] at hy
      simp at hy
      subst hy
      rw [show i = n by omega]; exact hx
end
end Go.Proofs.Ytlejbhgginolgaa
