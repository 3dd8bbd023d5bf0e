/-
  Slice expressions over slices of whatever elements; a row of elements.
-/
import Derived.Test.YtlejbhgginolgaaBase
namespace Go.Proofs.Ytlejbhgginolgaa
open Go.RowKit

section
variable {P : Program} {t e : TypeId} {z : Value} {size bytes : Nat}
theorem Elem.sizeOf (E : Elem P t e z size bytes) (w : World) : (Go.sizeOf e).run P w = .ok size w := by
  obtain ⟨i, hi, _, hs, _⟩ := info_parts E.info
  simp [Go.sizeOf, typeInfo, hi, hs]
theorem Elem.self (E : Elem P t e z size bytes) : P.elem t = e := by
  have := E.under
  unfold Program.elem
  rw [this]
theorem Elem.under' (E : Elem P t e z size bytes) : P.underlying t = some (.slice (P.elem t)) := by rw [E.self]; exact E.under
theorem map_add_zeroS (a : Option Addr) (s : Nat) : a.map (·.add (0 * s)) = a := by
  rcases a with _ | ⟨b, off, sp⟩
  · rfl
  · simp [Addr.add]
theorem slice_toS (E : Elem P t e z size bytes) (a : Option Addr) (len cap h : Nat) (hh : h ≤ cap) (w : World) :
    (Instr.slice t (.slice a len cap) none (some (.int .i64 (h : Int))) none).run P w = .ok (.slice a h cap) w := by
  rw [run_slice_h (P := P) w t a len cap E.under' .i64 (h : Int) (by omega) (by omega), E.self, E.sizeOf]
  simp only [Result.andThen, sliced, map_add_zeroS, Int.toNat_natCast, Nat.sub_zero, ite_self]
/-- The address of 's[l:]', elements of so many cells. -/
def cutS (a : Option Addr) (cap l size : Nat) : Option Addr := if cap = l then a else a.map (·.add (l * size))
theorem slice_fromS (E : Elem P t e z size bytes) (a : Option Addr) (len cap l : Nat) (hl : l ≤ len) (w : World) :
    (Instr.slice t (.slice a len cap) (some (.int .i64 (l : Int))) none none).run P w = .ok (.slice (cutS a cap l size) (len - l) (cap - l)) w := by
  rw [run_slice_l (P := P) w t a len cap E.under' .i64 (l : Int) (by omega) (by omega), E.self, E.sizeOf]
  simp only [Result.andThen, sliced, Int.toNat_natCast, cutS]
theorem slice_midS (E : Elem P t e z size bytes) (a : Option Addr) (len cap l h : Nat) (hl : l ≤ h) (hh : h ≤ cap) (w : World) :
    (Instr.slice t (.slice a len cap) (some (.int .i64 (l : Int))) (some (.int .i64 (h : Int))) none).run P w = .ok (.slice (cutS a cap l size) (h - l) (cap - l)) w := by
  rw [run_slice_lh (P := P) w t a len cap E.under' .i64 .i64 (l : Int) (h : Int) (by omega) (by omega) (by omega), E.self, E.sizeOf]
  simp only [Result.andThen, sliced, Int.toNat_natCast, cutS]
end
theorem RowAt.cutS {w : World} {a : Option Addr} {xs : List Value} (h : RowAt w a xs) (cap l size : Nat) (hc : xs.length ≤ cap * size) : RowAt w (cutS a cap l size) (xs.drop (l * size)) := by
  unfold Proofs.Ytlejbhgginolgaa.cutS
  by_cases e : cap = l
  · rw [if_pos e, List.drop_of_length_le (by rw [← e]; exact hc)]; exact .nil
  · rw [if_neg e]
    rcases h with rfl | ⟨b, off, rfl, hlt, hx⟩
    · rw [List.drop_nil]; exact .nil
    · have hadd : (⟨b, off, none⟩ : Addr).add (l * size) = ⟨b, off + l * size, none⟩ := by unfold Addr.add; split <;> simp_all
      rw [Option.map_some, hadd]
      exact RowAt.drop (.inr ⟨b, off, rfl, hlt, hx⟩) (l * size)
theorem cutS_none {a : Option Addr} {cap l size n : Nat} (h : a = none → n = 0) : cutS a cap l size = none → n - l = 0 := by
  unfold cutS
  intro e
  have : a = none := by
    by_cases hc : cap = l
    · rwa [if_pos hc] at e
    · rw [if_neg hc] at e; cases a with
      | none => rfl
      | some x => cases e
  rw [h this, Nat.zero_sub]
end Go.Proofs.Ytlejbhgginolgaa
