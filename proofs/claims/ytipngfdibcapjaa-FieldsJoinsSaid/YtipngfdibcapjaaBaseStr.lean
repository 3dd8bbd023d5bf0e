/-
  Bytes read as a string.
-/
import Derived.Test.YtipngfdibcapjaaElemB
import Derived.Deep.RegionWith
import Derived.Deep.RegionHeld3
import Derived.Deep.DeepCutAuto
import Derived.Deep.DrawnRows
namespace Go.Proofs.Ytipngfdibcapjaa
open Go.RowKit

/-- Bytes as a string. -/
def strOf (bs : List UInt8) : ByteArray := ⟨bs.toArray⟩
theorem strOf_inj {bs cs : List UInt8} (h : strOf bs = strOf cs) : bs = cs := by
  have := congrArg (fun s => s.data.toList) h
  simpa [strOf] using this
theorem strOf_bytes (bs : List UInt8) : strOfNums (bs.map fun b => (b.toNat : Int)) = strOf bs := by
  unfold strOf strOfNums
  simp [Function.comp_def]
theorem str_test (x y : List UInt8) : (!(strOf x).toList == (strOf y).toList) = !decide (x = y) := by
  have e : ∀ z : List UInt8, (strOf z).toList = z := fun z => by simp [strOf]
  rw [e, e]
  by_cases h : x = y <;> simp [h]
theorem own_le {w : World} {base : Nat} {e : TypeId} {size : Nat} {A : Option Addr} {n cap : Nat} {xs : List Value} (h : w.ownsRow base e size (.slice A n cap) n xs) : n ≤ cap := by
  obtain ⟨a, c, hv, hc⟩ := own_form h
  cases hv
  exact hc
theorem own_none {w : World} {base : Nat} {e : TypeId} {size : Nat} {A : Option Addr} {n cap : Nat} {xs : List Value} (h : w.ownsRow base e size (.slice A n cap) n xs) : A = none → n = 0 := by
  rintro rfl
  rcases h.2 with ⟨_, h0⟩ | ⟨g, c, cur, hv, _⟩
  · exact h0
  · cases hv
theorem run_convert_cells {A : Option Addr} {bs : List UInt8} (cap : Nat) (w : World) (h : CellsB w A bs) (hz : A = none → bs.length = 0) :
    (convert 23 9 (.slice A bs.length cap)).run Try.prog w = .ok (.string (strOf bs)) w := by
  rcases A with _ | ad
  · obtain rfl := List.eq_nil_of_length_eq_zero (hz rfl)
    exact run_convert_bytes_nil (P := Try.prog) w 23 5 Try.underlying23 Try.underlying5 0 cap 9 Try.underlying9
  · by_cases h0 : bs = []
    · subst h0
      rw [run_convert_bytes_string (P := Try.prog) w 23 9 5 _ _ cap Try.underlying23 Try.underlying5 Try.underlying9]
      exact run_bytesToString (P := Try.prog) w ad 0 cap [] (by simp [loadCells, loadCellsFrom])
    · obtain ⟨b, off, he, _, hc⟩ := h.resolve_left (by simpa using h0)
      cases he
      have := run_convert_bytes_arg (P := Try.prog) w 23 5 Try.underlying23 Try.underlying5 b off bs.length cap (bs.map fun b => (b.toNat : Int)) (by simp) (fun i hi => by
        rw [hc i (byteV bs[i]) (by simp [hi])]
        simp [byteV, hi]) 9 Try.underlying9
      rwa [strOf_bytes] at this
end Go.Proofs.Ytipngfdibcapjaa
