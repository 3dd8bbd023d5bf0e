/-
  Whether an entry of some may not be.
-/
import Derived.Test.YtnbljcbfnplbaaaVaultF
import Derived.Test.YtnbljcbfnplbaaaBE
import Derived.Test.YtnbljcbfnplbaaaBA
namespace Go.Proofs.Ytnbljcbfnplbaaa
open Go.RowKit
set_option linter.unusedVariables false
theorem anyE_goes {es : List En} {k : Nat} {p : En → Bool} (hk : k < es.length) (h : (es.take k).any p = false) (h2 : p (es[k]'hk) = false) : (es.take (k + 1)).any p = false := by
  rw [List.take_add_one, List.getElem?_eq_getElem hk, List.any_append, h]
  simpa using h2
theorem anyE_stops {es : List En} {k : Nat} {p : En → Bool} (hk : k < es.length) (h2 : p (es[k]'hk) = true) : es.any p = true := List.any_eq_true.2 ⟨_, List.getElem_mem hk, h2⟩
set_option maxRecDepth 100000 in
set_option maxHeartbeats 3200000 in
theorem indexE_any (a : Option Addr) (cap : Nat) (es : List En) (w : World) (hr : RowAt w a (ensV es)) (hl : es.length ≤ 1000000) (hwf : ∀ e ∈ es, EnWf e) :
    Calls Try.prog 41 #[.slice a es.length cap, .func (.func 27) #[] #[]] w fun e w' => (∃ i : Int, e = .returned (.int .i64 i) ∧ -1 ≤ i ∧ decide (0 ≤ i) = es.any oddE) ∧ Below w.heap.size w w' := by
  have HW := Lib.hid hwf
  have HR := Lib.hid hr
  clear hwf hr
  go_enter Try.func41, Try.ntmps41
  go_wp2
  go_loopw [8] (fun i wr => ∃ (k : Nat), k ≤ es.length ∧ i = .int .i64 k ∧ Hid ((es.take k).any oddE = false) ∧ Below w.heap.size w wr) (fun i _ => es.length - (intOf i).toNat)
  case atStart => exact ⟨0, by omega, rfl, by rw [Hid]; simp, below0 w⟩
  case round =>
    obtain ⟨k, hk, rfl, HP, hbw⟩ := hrel
    by_cases hlt : k < es.length
    · obtain ⟨b, off, rfl, hblt, c0, c1, c2, c3, c4, c5, c6⟩ := entry_cells (HR.out.below hbw) hlt
      have HS : Hid (∀ W, Calls Try.prog 27 #[entA (es[k]'hlt)] W fun e w' => e = .returned (.bool (oddE (es[k]'hlt))) ∧ Below W.heap.size W w') := fun W => oddEn_any _ W (HW.out _ (List.getElem_mem hlt))
      have hk0 : (0 : Int) ≤ (k : Int) := by omega
      have hk1 : (k : Int) < (es.length : Int) := by omega
      have hb1 := hbw.size
      unfold entA at HS
      cases hp : oddE (es[k]'hlt) with
      | true =>
        have HQ := Lib.hid (anyE_stops (p := oddE) hlt hp)
        rw [hp] at HS
        clear hp
        generalize (es[k]'hlt) = x at HS c0 c1 c2 c3 c4 c5 c6
        obtain ⟨x0, x1, x2, x3, x4, x5, x6⟩ := x
        simp only at HS c0 c1 c2 c3 c4 c5 c6
        go_wp2_with (go_at_call 27; refine (HS.out _).mono ?_; rintro e w' ⟨rfl, hb2⟩; have hb3 := hbw.trans (hb2.mono hb1))
        go_ret
        exact ⟨⟨_, rfl, by omega, by rw [HQ.out]; simp⟩, hb3⟩
      | false =>
        have HQ := Lib.hid (anyE_goes (p := oddE) hlt HP.out hp)
        rw [hp] at HS
        clear hp HP
        generalize (es[k]'hlt) = x at HS c0 c1 c2 c3 c4 c5 c6
        obtain ⟨x0, x1, x2, x3, x4, x5, x6⟩ := x
        simp only at HS c0 c1 c2 c3 c4 c5 c6
        go_wp2_with (go_at_call 27; refine (HS.out _).mono ?_; rintro e w' ⟨rfl, hb2⟩; have hb3 := hbw.trans (hb2.mono hb1))
        go_roundw
        case rel => exact ⟨k + 1, by omega, by go_num, HQ, hb3⟩
        case measure => simp [intOf]; omega
    · have hk : k = es.length := by omega
      subst hk
      have HP2 : Hid (es.any oddE = false) := by have := HP.out; rwa [List.take_length] at this
      go_wp2
      go_ret
      exact ⟨⟨-1, rfl, by omega, by rw [HP2.out]; rfl⟩, hbw⟩
theorem containsE_any (a : Option Addr) (cap : Nat) (es : List En) (w : World) (hr : RowAt w a (ensV es)) (hl : es.length ≤ 1000000) (hwf : ∀ e ∈ es, EnWf e) :
    Calls Try.prog 26 #[.slice a es.length cap, .func (.func 27) #[] #[]] w fun e w' => e = .returned (.bool (es.any oddE)) ∧ Below w.heap.size w w' := by
  have HS := Lib.hid (indexE_any a cap es w hr hl hwf)
  clear hr hwf
  go_enter Try.func26, Try.ntmps26
  go_wp2_with (go_at_call 41; refine HS.out.mono ?_; rintro e w' ⟨⟨i, rfl, hi1, hi2⟩, hb⟩; replace hi2 := Lib.hid hi2)
  go_ret
  exact ⟨ret_bool hi2.out, hb⟩
end Go.Proofs.Ytnbljcbfnplbaaa
