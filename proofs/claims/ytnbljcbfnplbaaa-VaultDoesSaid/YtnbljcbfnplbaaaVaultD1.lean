/-
  Few; the cells of what happens.
-/
import Derived.Test.YtnbljcbfnplbaaaOpenEvs
namespace Go.Proofs.Ytnbljcbfnplbaaa
open Go.RowKit
set_option linter.unusedVariables false
theorem EvsIn.below {w w' : World} {a : Option Addr} {cap : Nat} {ms : List EvT} (h : EvsIn w a cap ms) (hb : Below w.heap.size w w') : EvsIn w' a cap ms :=
  ⟨fun i m hi => by
    obtain ⟨b, off, am, cm, h1, h2, h3, h4, h5⟩ := h.at_ i m hi
    exact ⟨b, off, am, cm, h1, Nat.lt_of_lt_of_le h2 hb.size, fun j u hj => ((bcell hb).1 _ _ h2).trans (h3 j u hj), h4.below hb, h5⟩, h.cap, h.none_, h.max⟩
theorem ev_cells {w : World} {a : Option Addr} {cap : Nat} {ms : List EvT} (h : EvsIn w a cap ms) {k : Nat} (hk : k < ms.length) :
    ∃ b off am cm, a = some ⟨b, off, none⟩ ∧ b < w.heap.size ∧ w.cell? ⟨b, off + k * 7, none⟩ = some (.int .i64 (ms[k]).1) ∧ w.cell? ⟨b, off + k * 7 + 1, none⟩ = some (.int .i64 (ms[k]).2.1) ∧ w.cell? ⟨b, off + k * 7 + 2, none⟩ = some (.int .i64 (ms[k]).2.2.1) ∧
      w.cell? ⟨b, off + k * 7 + 3, none⟩ = some (.int .i64 (ms[k]).2.2.2.1) ∧ w.cell? ⟨b, off + k * 7 + 4, none⟩ = some (.int .i64 (ms[k]).2.2.2.2.1) ∧ w.cell? ⟨b, off + k * 7 + 5, none⟩ = some (.slice am (ms[k]).2.2.2.2.2.1.length cm) ∧ w.cell? ⟨b, off + k * 7 + 6, none⟩ = some (.int .i64 (ms[k]).2.2.2.2.2.2) ∧
      LogIn w am cm (ms[k]).2.2.2.2.2.1 ∧ ∀ x ∈ (ms[k]).2.2.2.2.2.1, EnWf x := by
  obtain ⟨b, off, am, cm, h1, h2, h3, h4, h5⟩ := h.at_ k _ (List.getElem?_eq_getElem hk)
  have e : ∀ j, off + k * 7 + j = off + (k * 7 + j) := fun j => by omega
  refine ⟨b, off, am, cm, h1, h2, h3 0 _ rfl, ?_, ?_, ?_, ?_, ?_, ?_, h4, h5⟩
  · rw [e 1]; exact h3 1 _ rfl
  · rw [e 2]; exact h3 2 _ rfl
  · rw [e 3]; exact h3 3 _ rfl
  · rw [e 4]; exact h3 4 _ rfl
  · rw [e 5]; exact h3 5 _ rfl
  · rw [e 6]; exact h3 6 _ rfl
/-- Whether there are few. -/
def RetFew (ms : List EvT) (w : World) (en : Ending) (w' : World) : Prop := ∃ q : Bool, en = .returned (.bool q) ∧ (q = true → ms.length ≤ 30) ∧ w' = w
set_option maxHeartbeats 3200000 in
theorem few_any (a : Option Addr) (cap : Nat) (ms : List EvT) (w : World) (h : EvsIn w a cap ms) :
    Calls Try.prog 16 #[.slice a ms.length cap] w (RetFew ms w) := by
  have H := Lib.hid h
  have hmx := h.max
  clear h
  by_cases h30 : (30 : Int) < (ms.length : Int)
  · go_enter Try.func16, Try.ntmps16
    go_wp2
    go_ret
    exact ⟨false, rfl, (fun h => by cases h), rfl⟩
  have H30 : Hid (ms.length ≤ 30) := by rw [Hid]; omega
  clear hmx
  go_enter Try.func16, Try.ntmps16
  go_wp2
  go_loopw [3] (fun i wr => ∃ k : Nat, k ≤ ms.length ∧ i = .int .i64 k ∧ wr = w) (fun i _ => ms.length - (intOf i).toNat)
  case atStart => exact ⟨0, by omega, rfl, rfl⟩
  case round =>
    obtain ⟨k, hk, rfl, rfl⟩ := hrel
    have hk0 : (0 : Int) ≤ (k : Int) := by omega
    by_cases hlt : k < ms.length
    · obtain ⟨b, off, am, cm, rfl, hbl, c0, c1, c2, c3, c4, c5, c6, _, _⟩ := ev_cells H.out hlt
      generalize (ms[k]'hlt) = x at c0 c1 c2 c3 c4 c5 c6
      have hk1 : (k : Int) < (ms.length : Int) := by omega
      by_cases h70 : (70 : Int) < (x.2.2.2.2.2.1.length : Int)
      · go_wp2
        go_ret
        exact ⟨false, rfl, (fun h => by cases h), rfl⟩
      · go_wp2
        go_roundw
        case rel => exact ⟨k + 1, by omega, by go_num, trivial⟩
        case measure => simp [intOf]; omega
    · have hk1 : ¬ (k : Int) < (ms.length : Int) := by omega
      go_wp2
      go_ret
      exact ⟨true, rfl, (fun _ => H30.out), rfl⟩
end Go.Proofs.Ytnbljcbfnplbaaa
