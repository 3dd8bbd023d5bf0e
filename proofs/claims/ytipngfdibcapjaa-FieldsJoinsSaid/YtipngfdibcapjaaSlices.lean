/-
  Slice expressions over slices of bytes, whatever address they have.
-/
import Derived.Test.YtipngfdibcapjaaElemB
namespace Go.Proofs.Ytipngfdibcapjaa
open Go.RowKit

theorem sizeOf_byte (w : World) : (sizeOf 5).run Try.prog w = .ok 1 w := by
  obtain ⟨i, hi, _, hs, _⟩ := info_parts elemB.info
  simp [sizeOf, typeInfo, hi, hs]
theorem elem_bytes : Try.prog.elem 23 = 5 := by kernel_rfl
theorem under_bytes : Try.prog.underlying 23 = some (.slice (Try.prog.elem 23)) := by rw [elem_bytes]; exact Try.underlying23
theorem map_add_zero (a : Option Addr) : a.map (·.add (0 * 1)) = a := by
  rcases a with _ | ⟨b, off, s⟩
  · rfl
  · simp [Addr.add]
/-- 'b[:h]' of bytes. -/
theorem slice_to (a : Option Addr) (len cap h : Nat) (hh : h ≤ cap) (w : World) :
    (Instr.slice 23 (.slice a len cap) none (some (.int .i64 (h : Int))) none).run Try.prog w = .ok (.slice a h cap) w := by
  rw [run_slice_h (P := Try.prog) w 23 a len cap under_bytes .i64 (h : Int) (by omega) (by omega), elem_bytes, sizeOf_byte]
  simp only [Result.andThen, sliced, map_add_zero, Int.toNat_natCast, Nat.sub_zero, ite_self]
/-- The address of 'b[l:]'. -/
def cutA (a : Option Addr) (cap l : Nat) : Option Addr := if cap = l then a else a.map (·.add (l * 1))
theorem slice_from (a : Option Addr) (len cap l : Nat) (hl : l ≤ len) (w : World) :
    (Instr.slice 23 (.slice a len cap) (some (.int .i64 (l : Int))) none none).run Try.prog w = .ok (.slice (cutA a cap l) (len - l) (cap - l)) w := by
  rw [run_slice_l (P := Try.prog) w 23 a len cap under_bytes .i64 (l : Int) (by omega) (by omega), elem_bytes, sizeOf_byte]
  simp only [Result.andThen, sliced, Int.toNat_natCast, cutA]
/-- 'b[l:h]' of bytes. -/
theorem slice_mid (a : Option Addr) (len cap l h : Nat) (hl : l ≤ h) (hh : h ≤ cap) (w : World) :
    (Instr.slice 23 (.slice a len cap) (some (.int .i64 (l : Int))) (some (.int .i64 (h : Int))) none).run Try.prog w = .ok (.slice (cutA a cap l) (h - l) (cap - l)) w := by
  rw [run_slice_lh (P := Try.prog) w 23 a len cap under_bytes .i64 .i64 (l : Int) (h : Int) (by omega) (by omega) (by omega), elem_bytes, sizeOf_byte]
  simp only [Result.andThen, sliced, Int.toNat_natCast, cutA]
theorem RowAt.cut {w : World} {a : Option Addr} {xs : List Value} (h : RowAt w a xs) (cap l : Nat) (hc : xs.length ≤ cap) : RowAt w (cutA a cap l) (xs.drop l) := by
  unfold cutA
  by_cases e : cap = l
  · rw [if_pos e, List.drop_of_length_le (by omega)]; exact .nil
  · rw [if_neg e]
    rcases h with rfl | ⟨b, off, rfl, hlt, hx⟩
    · rw [List.drop_nil]; exact .nil
    · have hadd : (⟨b, off, none⟩ : Addr).add (l * 1) = ⟨b, off + l, none⟩ := by unfold Addr.add; split <;> simp_all
      rw [Option.map_some, hadd]
      exact RowAt.drop (.inr ⟨b, off, rfl, hlt, hx⟩) l
theorem cutA_none {a : Option Addr} {cap l n : Nat} (h : a = none → n = 0) : cutA a cap l = none → n - l = 0 := by
  unfold cutA
  intro e
  have : a = none := by
    by_cases hc : cap = l
    · rwa [if_pos hc] at e
    · rw [if_neg hc] at e; cases a with
      | none => rfl
      | some x => cases e
  rw [h this, Nat.zero_sub]
theorem CellsB.take {w : World} {a : Option Addr} {bs : List UInt8} (h : CellsB w a bs) (k : Nat) : CellsB w a (bs.take k) := by
  unfold CellsB at h ⊢; rw [List.map_take]; exact RowAt.take h k
theorem CellsB.cut {w : World} {a : Option Addr} {bs : List UInt8} (h : CellsB w a bs) (cap l : Nat) (hc : bs.length ≤ cap) : CellsB w (cutA a cap l) (bs.drop l) := by
  unfold CellsB at h ⊢; rw [List.map_drop]; exact RowAt.cut h cap l (by simpa using hc)
end Go.Proofs.Ytipngfdibcapjaa
