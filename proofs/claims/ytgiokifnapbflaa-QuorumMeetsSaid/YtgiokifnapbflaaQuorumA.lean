/-
  Layer 6: how many are more than half, how many have an index, and the document's answers.
-/
import Derived.Test.YtgiokifnapbflaaQMath
import Derived.Test.YtgiokifnapbflaaInts
namespace Go.Proofs.Ytgiokifnapbflaa
open Go.RowKit
set_option linter.unusedVariables false
theorem majority_any (n : Int) (h : n ≤ 9223372036854775807) (h0 : -9223372036854775808 ≤ n) (w : World) : Calls Try.prog 8 #[.int .i64 n] w fun e w' => e = .returned (.int .i64 (if n < 1 then 1 else n / 2 + 1)) ∧ w = w' := by
  by_cases h1 : n < 1
  · rw [if_pos h1]
    have hm : max n 0 = 0 := by omega
    go_enter Try.func8, Try.ntmps8
    clear hm
    go_wp2
    all_goals
      go_ret
      refine ⟨?_, rfl⟩
      first
        | rfl
        | (simp; omega)
  · rw [if_neg h1]
    have hm : max n 0 = n := by omega
    have h2 : 0 ≤ n := by omega
    clear h1
    go_enter Try.func8, Try.ntmps8
    go_wp2
    go_ret
    exact ⟨by simp, rfl⟩
set_option maxHeartbeats 1600000 in
theorem held_any (a : Option Addr) (cap : Nat) (ns : List Int) (i : Int) (w : World) (hr : CellsI w a ns) (hm : ns.length ≤ 1000000) :
    Calls Try.prog 10 #[.slice a ns.length cap, .int .i64 i] w fun e w' => e = .returned (.int .i64 (heldN ns i)) ∧ w = w' := by
  have HR := Lib.hid hr
  clear hr
  go_enter Try.func10, Try.ntmps10
  go_wp2
  go_loop [5, 10] (fun v k => ∃ j : Nat, j ≤ ns.length ∧ k = .int .i64 (j : Int) ∧ v = .int .i64 (heldN (ns.take j) i)) (fun _ k => ns.length - (intOf k).toNat)
  case atStart => exact ⟨0, by omega, rfl, rfl⟩
  case round =>
    obtain ⟨j, hj, rfl, rfl⟩ := hrel
    by_cases hlt : j < ns.length
    · obtain ⟨b, off, rfl, hblt, hc⟩ := HR.out.at hlt
      have hle := heldN_le (ns.take j) i
      rw [List.length_take] at hle
      have hv := heldN_snoc (ns.take j) (ns[j]'hlt) i
      rw [← List.take_succ_eq_append_getElem hlt] at hv
      have HV := Lib.hid hv
      clear hv
      generalize (ns[j]'hlt) = x at hc HV
      generalize heldN (ns.take j) i = v at HV hle
      by_cases hx : i ≤ x
      · rw [if_pos hx] at HV
        have hv : v ≤ 1000000 := by omega
        have hv' : (v : Int) ≤ 1000000 := by omega
        go_wp2
        go_round
        case rel => exact ⟨j + 1, by omega, by go_num, by rw [HV.out]; go_num⟩
        case measure => simp [intOf]; omega
      · rw [if_neg hx] at HV
        go_wp2
        go_round
        case rel => exact ⟨j + 1, by omega, by go_num, by rw [HV.out]; rfl⟩
        case measure => simp [intOf]; omega
    · have hjn : j = ns.length := by omega
      go_wp2
      go_ret
      exact ⟨rfl, rfl⟩
set_option maxHeartbeats 1600000 in
theorem refMajority_any (n : Int) (h : n ≤ 9223372036854775807) (h0 : -9223372036854775808 ≤ n) (w : World) : Calls Try.prog 9 #[.int .i64 n] w fun e w' => e = .returned (.int .i64 (if n < 1 then 1 else n / 2 + 1)) ∧ w = w' := by
  by_cases h1 : n < 1
  · rw [if_pos h1]
    go_enter Try.func9, Try.ntmps9
    go_wp2
    go_ret
    exact ⟨rfl, rfl⟩
  · rw [if_neg h1]
    have h2 : 0 ≤ n := by omega
    go_enter Try.func9, Try.ntmps9
    go_wp2
    go_ret
    exact ⟨by simp, rfl⟩
set_option maxHeartbeats 1600000 in
theorem refHeld_any (a : Option Addr) (cap : Nat) (ns : List Int) (i : Int) (w : World) (hr : CellsI w a ns) (hm : ns.length ≤ 1000000) :
    Calls Try.prog 11 #[.slice a ns.length cap, .int .i64 i] w fun e w' => e = .returned (.int .i64 (heldN ns i)) ∧ w = w' := by
  have HR := Lib.hid hr
  clear hr
  go_enter Try.func11, Try.ntmps11
  go_wp2
  go_loop [5, 6] (fun v k => ∃ j : Nat, j ≤ ns.length ∧ k = .int .i64 (j : Int) ∧ v = .int .i64 (heldN (ns.take j) i)) (fun _ k => ns.length - (intOf k).toNat)
  case atStart => exact ⟨0, by omega, rfl, rfl⟩
  case round =>
    obtain ⟨j, hj, rfl, rfl⟩ := hrel
    by_cases hlt : j < ns.length
    · obtain ⟨b, off, rfl, hblt, hc⟩ := HR.out.at hlt
      have hle := heldN_le (ns.take j) i
      rw [List.length_take] at hle
      have hv := heldN_snoc (ns.take j) (ns[j]'hlt) i
      rw [← List.take_succ_eq_append_getElem hlt] at hv
      have HV := Lib.hid hv
      clear hv
      have hj0 : (0 : Int) ≤ (j : Int) := by omega
      have hj1 : (j : Int) < (ns.length : Int) := by omega
      generalize (ns[j]'hlt) = x at hc HV
      generalize heldN (ns.take j) i = v at HV hle
      by_cases hx : i ≤ x
      · rw [if_pos hx] at HV
        have hv : v ≤ 1000000 := by omega
        have hv' : (v : Int) ≤ 1000000 := by omega
        go_wp2
        go_round
        case rel => exact ⟨j + 1, by omega, by go_num, by rw [HV.out]; go_num⟩
        case measure => simp [intOf]; omega
      · rw [if_neg hx] at HV
        go_wp2
        go_round
        case rel => exact ⟨j + 1, by omega, by go_num, by rw [HV.out]; rfl⟩
        case measure => simp [intOf]; omega
    · have hjn : j = ns.length := by omega
      go_wp2
      go_ret
      exact ⟨rfl, rfl⟩
/-- What the document's loop has found so far. -/
def Found (ns : List Int) (j : Nat) (best : Int) (found : Bool) : Prop :=
  (found = false → best = 0 ∧ ∀ m ∈ ns.take j, ¬ enough ns m) ∧ (found = true → enough ns best ∧ ∀ m ∈ ns.take j, enough ns m → m ≤ best)
theorem Found.step {ns : List Int} {j : Nat} {best : Int} {found : Bool} (hf : Found ns j best found) (hj : j < ns.length) :
    (enough ns (ns[j]'hj) ∧ (found = false ∨ best < (ns[j]'hj)) → Found ns (j + 1) (ns[j]'hj) true) ∧ (¬ (enough ns (ns[j]'hj) ∧ (found = false ∨ best < (ns[j]'hj))) → Found ns (j + 1) best found) := by
  obtain ⟨h1, h2⟩ := hf
  have hm : ∀ m, m ∈ ns.take (j + 1) ↔ m ∈ ns.take j ∨ m = ns[j]'hj := fun m => by
    rw [List.take_succ_eq_append_getElem hj, List.mem_append, List.mem_singleton]
  refine ⟨fun ⟨he, hb⟩ => ⟨fun h => by (cases h), fun _ => ⟨he, fun m hmm hem => ?_⟩⟩, fun hn => ⟨fun h => ⟨(h1 h).1, fun m hmm => ?_⟩, fun h => ⟨(h2 h).1, fun m hmm hem => ?_⟩⟩⟩
  · rcases (hm m).1 hmm with h | rfl
    · cases found with
      | false => exact ((h1 rfl).2 m h hem).elim
      | true =>
        have := (h2 rfl).2 m h hem
        rcases hb with hb | hb
        · cases hb
        · omega
    · exact Int.le_refl _
  · rcases (hm m).1 hmm with h' | rfl
    · exact (h1 h).2 m h'
    · exact fun he => hn ⟨he, .inl h⟩
  · rcases (hm m).1 hmm with h' | rfl
    · exact (h2 h).2 m h' hem
    · rcases Int.lt_or_le best (ns[j]'hj) with h3 | h3
      · exact (hn ⟨hem, .inr h3⟩).elim
      · exact h3
theorem Found.last {ns : List Int} {best : Int} {found : Bool} (hf : Found ns ns.length best found) : best = mostL ns := by
  obtain ⟨h1, h2⟩ := hf
  rw [List.take_length] at h1 h2
  by_cases h0 : ns.length = 0
  · cases found with
    | false => unfold mostL; rw [if_pos h0]; exact (h1 rfl).1
    | true =>
      have := (h2 rfl).1
      have hh := heldN_le ns best
      unfold enough majN at this
      omega
  · obtain ⟨s1, s2, s3⟩ := most_spec h0
    cases found with
    | false => exact ((h1 rfl).2 _ s1 s2).elim
    | true => exact most_unique h0 (h2 rfl).1 (h2 rfl).2
set_option maxHeartbeats 3200000 in
theorem refMost_any (a : Option Addr) (cap : Nat) (ns : List Int) (w : World) (hr : CellsI w a ns) (hm : ns.length ≤ 1000000) :
    Calls Try.prog 13 #[.slice a ns.length cap] w fun e w' => e = .returned (.int .i64 (mostL ns)) ∧ w = w' := by
  have HR := Lib.hid hr
  have HH : Hid (∀ i, Calls Try.prog 11 #[.slice a ns.length cap, .int .i64 i] w fun e w' => e = .returned (.int .i64 (heldN ns i)) ∧ w = w') := fun i => refHeld_any a cap ns i w hr hm
  have HM : Hid (0 < ns.length → Calls Try.prog 9 #[.int .i64 (ns.length : Int)] w fun e w' => e = .returned (.int .i64 (majN ns.length : Nat)) ∧ w = w') := fun h => by
    have := refMajority_any (ns.length : Int) (by omega) (by omega) w
    rw [if_neg (by omega)] at this
    unfold majN
    rwa [show ((ns.length / 2 + 1 : Nat) : Int) = (ns.length : Int) / 2 + 1 by omega]
  clear hr
  go_enter Try.func13, Try.ntmps13
  go_wp2
  go_loop [3, 4, 5] (fun b f k => ∃ (j : Nat) (best : Int) (found : Bool), j ≤ ns.length ∧ k = .int .i64 (j : Int) ∧ b = .int .i64 best ∧ f = .bool found ∧ Hid (Found ns j best found)) (fun _ _ k => ns.length - (intOf k).toNat)
  case atStart => exact ⟨0, 0, false, by omega, rfl, rfl, rfl, ⟨fun _ => ⟨rfl, fun m hm => by simp at hm⟩, fun h => by cases h⟩⟩
  case round =>
    obtain ⟨j, best, found, hj, rfl, rfl, rfl, HF⟩ := hrel
    by_cases hlt : j < ns.length
    · obtain ⟨b, off, rfl, hblt, hc⟩ := HR.out.at hlt
      have hst := HF.out.step hlt
      have HS := Lib.hid hst
      clear hst
      have HM' := Lib.hid (HM.out (by omega))
      have hj0 : (0 : Int) ≤ (j : Int) := by omega
      have hj1 : (j : Int) < (ns.length : Int) := by omega
      generalize (ns[j]'hlt) = x at hc HS
      unfold enough at HS
      have HH' := Lib.hid (HH.out x)
      generalize heldN ns x = hx at HS HH'
      generalize majN ns.length = q at HS HM'
      clear HH HM
      by_cases he : q ≤ hx
      · cases found with
        | false =>
          have HG := Lib.hid (HS.out.1 ⟨he, .inl rfl⟩)
          clear HS
          go_wp2_with (first
            | (go_at_call 11; refine (HH'.out).mono ?_; rintro en w' ⟨rfl, rfl⟩)
            | (go_at_call 9; refine (HM'.out).mono ?_; rintro en w' ⟨rfl, rfl⟩))
          go_round
          case rel => exact ⟨j + 1, x, true, by omega, by go_num, rfl, rfl, HG⟩
          case measure => simp [intOf]; omega
        | true =>
          by_cases hb : best < x
          · have HG := Lib.hid (HS.out.1 ⟨he, .inr hb⟩)
            clear HS
            go_wp2_with (first
              | (go_at_call 11; refine (HH'.out).mono ?_; rintro en w' ⟨rfl, rfl⟩)
              | (go_at_call 9; refine (HM'.out).mono ?_; rintro en w' ⟨rfl, rfl⟩))
            go_round
            case rel => exact ⟨j + 1, x, true, by omega, by go_num, rfl, rfl, HG⟩
            case measure => simp [intOf]; omega
          · have HG := Lib.hid (HS.out.2 (fun h => by rcases h.2 with h | h; cases h; exact hb h))
            clear HS
            go_wp2_with (first
              | (go_at_call 11; refine (HH'.out).mono ?_; rintro en w' ⟨rfl, rfl⟩)
              | (go_at_call 9; refine (HM'.out).mono ?_; rintro en w' ⟨rfl, rfl⟩))
            go_round
            case rel => exact ⟨j + 1, best, true, by omega, by go_num, rfl, rfl, HG⟩
            case measure => simp [intOf]; omega
      · have HG := Lib.hid (HS.out.2 (fun h => he h.1))
        clear HS
        go_wp2_with (first
          | (go_at_call 11; refine (HH'.out).mono ?_; rintro en w' ⟨rfl, rfl⟩)
          | (go_at_call 9; refine (HM'.out).mono ?_; rintro en w' ⟨rfl, rfl⟩))
        go_round
        case rel => exact ⟨j + 1, best, found, by omega, by go_num, rfl, rfl, HG⟩
        case measure => simp [intOf]; omega
    · have hjn : j = ns.length := by omega
      have HX : Hid (best = mostL ns) := by have := HF.out; rw [hjn] at this; exact this.last
      go_wp2
      go_ret
      exact ⟨by rw [HX.out]; rfl, rfl⟩
end Go.Proofs.Ytgiokifnapbflaa
