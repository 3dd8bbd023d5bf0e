/-
  A slice of bytes that came in, out of the frame's own words.
-/
import Derived.Test.YtipngfdibcapjaaElemB
namespace Go.Proofs.Ytipngfdibcapjaa
open Go.RowKit

theorem byte_of_wf {z : Int} (h : (Lit.int .u8 z).wf = true) : ((UInt8.ofNat z.toNat).toNat : Int) = z := by
  have h' : 0 ≤ z ∧ z < 256 := by
    simp [Lit.wf, IntKind.min, IntKind.max, IntKind.signed, IntKind.bits] at h
    omega
  rw [UInt8.toNat_ofNat_of_lt' (by show z.toNat < 256; omega)]
  omega
theorem byte_exists {z : Int} (h : (Lit.int .u8 z).wf = true) : ∃ b : UInt8, z = (b.toNat : Int) := ⟨_, (byte_of_wf h).symm⟩
/-- What the frame says of a slice of bytes that came in: it reads as bytes. -/
theorem row_bytes {w : World} {a : Option Addr} {len cap : Nat} {zs : List Int}
    (h : (a = none ∧ len = 0 ∧ cap = 0 ∧ zs = []) ∨ ∃ x, a = some x ∧ len ≤ cap ∧ cap ≤ maxLen ∧ zs.length = cap ∧ (∀ i, i < zs.length → w.cell? (x.add i) = some (.int .u8 (zs.getD i 0))) ∧ ∀ n ∈ zs, (Lit.int .u8 n).wf = true) :
    ∃ bs : List UInt8, len = bs.length ∧ CellsB w a bs ∧ bs.length ≤ cap ∧ (a = none → bs.length = 0) := by
  rcases h with ⟨rfl, rfl, rfl, rfl⟩ | ⟨x, rfl, hl, hm, hz, hc, hw⟩
  · exact ⟨[], rfl, RowAt.nil, Nat.le_refl _, fun _ => rfl⟩
  · have hlen : ((zs.take len).map fun z => UInt8.ofNat z.toNat).length = len := by rw [List.length_map, List.length_take]; omega
    refine ⟨(zs.take len).map fun z => UInt8.ofNat z.toNat, hlen.symm, ?_, by omega, by simp⟩
    by_cases h0 : len = 0
    · subst h0
      exact .inl (by simp)
    · obtain ⟨b, off, spot⟩ := x
      have h1 := hc 0 (by omega)
      have hspot : spot = none := by simpa [Addr.add] using World.cell?_spot h1
      subst hspot
      have hadd : ∀ j, (⟨b, off, none⟩ : Addr).add j = ⟨b, off + j, none⟩ := fun j => by unfold Addr.add; split <;> simp_all
      refine .inr ⟨b, off, rfl, ?_, fun i u hi => ?_⟩
      · rw [hadd] at h1
        exact block_lt_of_cell h1
      · rw [List.map_map] at hi
        have hi1 : i < (zs.take len).length := by
          rcases Nat.lt_or_ge i (zs.take len).length with h | h
          · exact h
          · rw [List.getElem?_eq_none (by rw [List.length_map]; exact h)] at hi; cases hi
        rw [List.length_take] at hi1
        have hi2 : i < zs.length := by omega
        rw [List.getElem?_map, List.getElem?_take, if_pos (by omega), List.getElem?_eq_getElem hi2] at hi
        have hu : byteV (UInt8.ofNat zs[i].toNat) = u := by simpa using hi
        rw [← hu, ← hadd, hc i hi2]
        unfold byteV
        rw [byte_of_wf (hw _ (List.getElem_mem hi2)), List.getD_eq_getElem?_getD, List.getElem?_eq_getElem hi2]
        rfl
end Go.Proofs.Ytipngfdibcapjaa
