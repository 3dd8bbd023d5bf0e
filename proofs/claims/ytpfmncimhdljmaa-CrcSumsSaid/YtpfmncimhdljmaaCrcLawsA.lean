/-
  Layer 1's laws: each one's text returns true, shown by walking it over the contracts of what it calls.
-/
import Derived.Test.YtpfmncimhdljmaaCrcWalksD
import Derived.Test.YtpfmncimhdljmaaRowBytes
namespace Go.Proofs.Ytpfmncimhdljmaa
open Go.RowKit

set_option maxHeartbeats 800000 in
theorem crcSums_walk (s : BitVec 32) (a : Option Addr) (cap : Nat) (bs : List UInt8) (n : Int) (w : World) (hb : CellsB w a bs) :
    Calls Try.prog 3 #[.int .u32 (U s), .slice a bs.length cap, .int .i64 n] w fun e w' => e = .returned (.bool true) ∧ Below w.heap.size w w' := by
  by_cases hlen : 4000 < bs.length
  · have ht : decide ((4000 : Int) < (bs.length : Int)) = true := by simp; omega
    clear hb
    go_enter Try.func3, Try.ntmps3
    go_wp2_with (go_at_call 11; refine (awake_any _).mono ?_; rintro e w1 ⟨rfl, hb1⟩)
    go_ret
    exact ⟨rfl, hb1⟩
  · have ht : decide ((4000 : Int) < (bs.length : Int)) = false := by simp; omega
    have hsum : ∀ W, CellsB W a bs → Calls Try.prog 14 #[.slice a bs.length cap] W fun e w' => e = .returned (.int .u32 (U (sum bs))) ∧ Below W.heap.size W w' := fun W h => sum_any a cap bs W h (by omega)
    have hsumr : ∀ W, CellsB W a bs → Calls Try.prog 15 #[.slice a bs.length cap] W fun e w' => e = .returned (.int .u32 (U (sum bs))) ∧ W = w' := fun W h => refSum_any a cap bs W h (by omega)
    have hmore : ∀ W, CellsB W a bs → Calls Try.prog 16 #[.int .u32 (U s), .slice a bs.length cap] W fun e w' => e = .returned (.int .u32 (U (more s bs))) ∧ Below W.heap.size W w' := fun W h => more_any s a cap bs W h (by omega)
    have hmorer : ∀ W, CellsB W a bs → Calls Try.prog 17 #[.int .u32 (U s), .slice a bs.length cap] W fun e w' => e = .returned (.int .u32 (U (more s bs))) ∧ W = w' := fun W h => refMore_any s a cap bs W h (by omega)
    have H1 := Lib.hid hsum
    have H2 := Lib.hid hsumr
    have H3 := Lib.hid hmore
    have H4 := Lib.hid hmorer
    clear hsum hsumr hmore hmorer
    generalize U (sum bs) = S1 at H1 H2
    generalize U (more s bs) = S2 at H3 H4
    have hst := storeNib
    by_cases hn : 0 ≤ n ∧ n < 16
    · obtain ⟨m, rfl⟩ : ∃ m : Nat, n = m := ⟨n.toNat, by omega⟩
      have hm : m < 16 := by omega
      have hm0 : (0 : Int) ≤ (m : Int) := by omega
      have hm1 : (m : Int) < 16 := by omega
      clear hn
      have hc := nibV_get m hm
      have hs : ∀ W, Calls Try.prog 13 #[.int .u32 (m : Int), .int .i64 4] W fun e w' => e = .returned (.int .u32 (U (nib m))) ∧ w' = W := fun W => by
        have := step_any (BitVec.ofNat 32 m) 4 (by omega) W
        rw [U_ofNat _ (by omega)] at this
        exact this.mono fun e w' ⟨h1, h2⟩ => ⟨h1, h2.symm⟩
      have H5 := Lib.hid hs
      clear hs
      generalize U (nib m) = N at hc H5
      have hc2 : nibV[m]'(by rw [nibV_size]; exact hm) = .int .u32 N := by rw [Array.getElem?_eq_getElem (by rw [nibV_size]; exact hm)] at hc; exact Option.some.inj hc
      have hne : (N != N) = false := by simp
      have hw : IntKind.u32.wrap (m : Int) = (m : Int) := by rw [IntKind.wrap_u32]; omega
      go_enter Try.func3, Try.ntmps3
      go_wp2_with (first
        | (go_at_call 11; refine (awake_any _).mono ?_; rintro e w1 ⟨rfl, hb1⟩)
        | (go_at_call 12; refine (nibbles_any _).mono ?_; rintro e w2 ⟨rfl, hb2⟩))
      go_quiet ((go_at_call 13; exact Calls.quiet_of_same (H5.out _)))
      clear hw
      have hb3 := bt hb1 hb2
      have hb4 := fun k => below_drewN (hb3.alloc hb3.size (.cells nibV 25)) k
      go_wp2_with (first
        | (go_at_call 14; refine (H1.out _ (by exact hb.below (hb4 _))).mono ?_; rintro e w3 ⟨rfl, hb5⟩; have hb6 := bt (hb4 _) hb5)
        | (go_at_call 15; refine (H2.out _ (by exact hb.below hb6)).mono ?_; rintro e w4 ⟨rfl, rfl⟩)
        | (go_at_call 16; refine (H3.out _ (by exact hb.below hb6)).mono ?_; rintro e w5 ⟨rfl, hb7⟩; have hb8 := bt hb6 hb7)
        | (go_at_call 17; refine (H4.out _ (by exact hb.below hb8)).mono ?_; rintro e w6 ⟨rfl, rfl⟩))
      go_ret
      exact ⟨rfl, hb8⟩
    · by_cases hn0 : 0 ≤ n
      · have hd0 : decide ((0 : Int) ≤ n) = true := by simpa using hn0
        have hd : decide (n < (16 : Int)) = false := by simp; omega
        go_enter Try.func3, Try.ntmps3
        go_wp2_with (first
          | (go_at_call 11; refine (awake_any _).mono ?_; rintro e w1 ⟨rfl, hb1⟩)
          | (go_at_call 12; refine (nibbles_any _).mono ?_; rintro e w2 ⟨rfl, hb2⟩))
        go_quiet (fail)
        have hb3 := bt hb1 hb2
        have hb4 := fun k => below_drewN (hb3.alloc hb3.size (.cells nibV 25)) k
        go_wp2_with (first
          | (go_at_call 14; refine (H1.out _ (by exact hb.below (hb4 _))).mono ?_; rintro e w3 ⟨rfl, hb5⟩; have hb6 := bt (hb4 _) hb5)
          | (go_at_call 15; refine (H2.out _ (by exact hb.below hb6)).mono ?_; rintro e w4 ⟨rfl, rfl⟩)
          | (go_at_call 16; refine (H3.out _ (by exact hb.below hb6)).mono ?_; rintro e w5 ⟨rfl, hb7⟩; have hb8 := bt hb6 hb7)
          | (go_at_call 17; refine (H4.out _ (by exact hb.below hb8)).mono ?_; rintro e w6 ⟨rfl, rfl⟩))
        go_ret
        exact ⟨rfl, hb8⟩
      · have hd : decide ((0 : Int) ≤ n) = false := by simpa using hn0
        go_enter Try.func3, Try.ntmps3
        go_wp2_with (first
          | (go_at_call 11; refine (awake_any _).mono ?_; rintro e w1 ⟨rfl, hb1⟩)
          | (go_at_call 12; refine (nibbles_any _).mono ?_; rintro e w2 ⟨rfl, hb2⟩))
        go_quiet (fail)
        have hb3 := bt hb1 hb2
        have hb4 := fun k => below_drewN (hb3.alloc hb3.size (.cells nibV 25)) k
        go_wp2_with (first
          | (go_at_call 14; refine (H1.out _ (by exact hb.below (hb4 _))).mono ?_; rintro e w3 ⟨rfl, hb5⟩; have hb6 := bt (hb4 _) hb5)
          | (go_at_call 15; refine (H2.out _ (by exact hb.below hb6)).mono ?_; rintro e w4 ⟨rfl, rfl⟩)
          | (go_at_call 16; refine (H3.out _ (by exact hb.below hb6)).mono ?_; rintro e w5 ⟨rfl, hb7⟩; have hb8 := bt hb6 hb7)
          | (go_at_call 17; refine (H4.out _ (by exact hb.below hb8)).mono ?_; rintro e w6 ⟨rfl, rfl⟩))
        go_ret
        exact ⟨rfl, hb8⟩
end Go.Proofs.Ytpfmncimhdljmaa
