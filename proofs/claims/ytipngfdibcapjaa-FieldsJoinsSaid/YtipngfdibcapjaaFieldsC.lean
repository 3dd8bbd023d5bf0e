/-
  Layer 2: slices of numbers; whether one may not be.
-/
import Derived.Test.YtipngfdibcapjaaFieldsB
namespace Go.Proofs.Ytipngfdibcapjaa
open Go.RowKit
set_option linter.unusedVariables false
/-! ### Slices of numbers -/
def intV (n : Int) : Value := .int .i64 n
/-- What a slice of numbers reads. -/
def CellsI (w : World) (a : Option Addr) (ns : List Int) : Prop := RowAt w a (ns.map intV)
theorem CellsI.at {w : World} {a : Option Addr} {ns : List Int} (h : CellsI w a ns) {k : Nat} (hk : k < ns.length) : ∃ b off, a = some ⟨b, off, none⟩ ∧ b < w.heap.size ∧ w.cell? ⟨b, off + k, none⟩ = some (.int .i64 (ns[k]'hk)) := by
  refine RowAt.at h (u := .int .i64 (ns[k]'hk)) ?_
  rw [List.getElem?_map, List.getElem?_eq_getElem hk]
  rfl
theorem CellsI.below {w w1 : World} {a : Option Addr} {ns : List Int} (h : CellsI w a ns) (hb : Below w.heap.size w w1) : CellsI w1 a ns := RowAt.below h hb
/-- A slice of numbers that came in. -/
structure IntsIn (w : World) (a : Option Addr) (cap : Nat) (ns : List Int) : Prop where
  cells : CellsI w a ns
  cap : ns.length ≤ cap
  none_ : a = none → ns.length = 0
  wf : ∀ n ∈ ns, (Lit.int .i64 n).wf = true
theorem odd_any (n : Int) (hn : (Lit.int .i64 n).wf = true) (w : World) : Calls Try.prog 21 #[.int .i64 n] w fun e w' => e = .returned (.bool (decide (sizeI n < 0))) ∧ w' = w := by
  have HS : Hid (∀ W, Calls Try.prog 14 #[.int .i64 n] W fun e w' => e = .returned (.int .i64 (sizeI n)) ∧ w' = W) := fun W => size_any n hn W
  generalize sizeI n = s at HS
  go_enter Try.func21, Try.ntmps21
  go_wp2_with (go_at_call 14; refine (HS.out _).mono ?_; rintro e w' ⟨rfl, rfl⟩)
  go_ret
  exact ⟨rfl, rfl⟩
theorem any_goes {ns : List Int} {k : Nat} {p : Int → Bool} (hk : k < ns.length) (h : (ns.take k).any p = false) (h2 : p (ns[k]'hk) = false) : (ns.take (k + 1)).any p = false := by
  rw [List.take_add_one, List.getElem?_eq_getElem hk, List.any_append, h]
  simpa using h2
theorem any_stops {ns : List Int} {k : Nat} {p : Int → Bool} (hk : k < ns.length) (h2 : p (ns[k]'hk) = true) : ns.any p = true := List.any_eq_true.2 ⟨_, List.getElem_mem hk, h2⟩
set_option maxHeartbeats 1600000 in
theorem index_any (a : Option Addr) (cap : Nat) (ns : List Int) (w : World) (hi : IntsIn w a cap ns) (hl : ns.length ≤ 1000000) :
    Calls Try.prog 31 #[.slice a ns.length cap, .func (.func 21) #[] #[]] w fun e w' => (∃ i : Int, e = .returned (.int .i64 i) ∧ -1 ≤ i ∧ decide (0 ≤ i) = ns.any fun n => decide (sizeI n < 0)) ∧ w' = w := by
  have hcells := hi.cells
  have HW := Lib.hid hi.wf
  clear hi
  go_enter Try.func31, Try.ntmps31
  go_wp2
  go_loopw [8] (fun i wr => ∃ (k : Nat), k ≤ ns.length ∧ i = .int .i64 k ∧ Hid ((ns.take k).any (fun n => decide (sizeI n < 0)) = false) ∧ wr = w) (fun i _ => ns.length - (intOf i).toNat)
  case atStart => exact ⟨0, by omega, rfl, by rw [Hid]; simp, rfl⟩
  case round =>
    obtain ⟨k, hk, rfl, HP, rfl⟩ := hrel
    by_cases hlt : k < ns.length
    · obtain ⟨b, off, rfl, hblt, hc⟩ := hcells.at hlt
      have hwf := HW.out _ (List.getElem_mem hlt)
      have HS : Hid (∀ W, Calls Try.prog 21 #[.int .i64 (ns[k]'hlt)] W fun e w' => e = .returned (.bool (decide (sizeI (ns[k]'hlt) < 0))) ∧ w' = W) := fun W => odd_any _ hwf W
      have hk0 : (0 : Int) ≤ (k : Int) := by omega
      have hk1 : (k : Int) < (ns.length : Int) := by omega
      by_cases hp : sizeI (ns[k]'hlt) < 0
      · have HR := Lib.hid (any_stops (p := fun n => decide (sizeI n < 0)) hlt (decide_eq_true hp))
        rw [decide_eq_true hp] at HS
        clear hp hwf
        generalize (ns[k]'hlt) = x at HS hc
        go_wp2_with (go_at_call 21; refine (HS.out _).mono ?_; rintro e w' ⟨rfl, rfl⟩)
        go_ret
        exact ⟨⟨_, rfl, by omega, by rw [HR.out]; simp⟩, rfl⟩
      · have HR := Lib.hid (any_goes (p := fun n => decide (sizeI n < 0)) hlt HP.out (decide_eq_false hp))
        rw [decide_eq_false hp] at HS
        clear hp hwf HP
        generalize (ns[k]'hlt) = x at HS hc
        go_wp2_with (go_at_call 21; refine (HS.out _).mono ?_; rintro e w' ⟨rfl, rfl⟩)
        go_roundw
        case rel => exact ⟨k + 1, by omega, by go_num, HR, trivial⟩
        case measure => simp [intOf]; omega
    · have hk : k = ns.length := by omega
      subst hk
      have HP2 : Hid (ns.any (fun n => decide (sizeI n < 0)) = false) := by have := HP.out; rwa [List.take_length] at this
      go_wp2
      go_ret
      exact ⟨⟨-1, rfl, by omega, by rw [HP2.out]; rfl⟩, rfl⟩
theorem contains_any (a : Option Addr) (cap : Nat) (ns : List Int) (w : World) (hi : IntsIn w a cap ns) (hl : ns.length ≤ 1000000) :
    Calls Try.prog 22 #[.slice a ns.length cap, .func (.func 21) #[] #[]] w fun e w' => e = .returned (.bool (ns.any fun n => decide (sizeI n < 0))) ∧ w' = w := by
  have HS := Lib.hid (index_any a cap ns w hi hl)
  clear hi
  go_enter Try.func22, Try.ntmps22
  go_wp2_with (go_at_call 31; refine HS.out.mono ?_; rintro e w' ⟨⟨i, rfl, hi1, hi2⟩, rfl⟩; replace hi2 := Lib.hid hi2)
  go_ret
  exact ⟨ret_bool hi2.out, rfl⟩
/-! ### The document's bytes of a number -/
theorem digsP_drop (n size i : Nat) (hi : i < size) : (digs n size).drop i = b8 (n / 256 ^ (size - 1 - i)) :: (digs n size).drop (i + 1) := by
  have hl : i < (digs n size).length := by rw [digs, digsP_length]; exact hi
  rw [List.drop_eq_getElem_cons hl]
  congr 1
  simp [digs, digsP]
end Go.Proofs.Ytipngfdibcapjaa
