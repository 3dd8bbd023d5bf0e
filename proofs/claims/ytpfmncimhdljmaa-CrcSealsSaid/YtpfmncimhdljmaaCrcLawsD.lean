/-
  Layer 1's laws, fourth part: sealed bytes as the document has them.
-/
import Derived.Test.YtpfmncimhdljmaaCrcWalksD
import Derived.Test.YtpfmncimhdljmaaCrcMathC
import Derived.Test.YtpfmncimhdljmaaSlices
import Derived.Test.YtpfmncimhdljmaaRowBytes
namespace Go.Proofs.Ytpfmncimhdljmaa
open Go.RowKit

attribute [local go_sem ↓] Go.wp_at_zero Go.wp_at_succ
set_option maxHeartbeats 3200000 in
theorem crcSeals_walk (a : Option Addr) (cap : Nat) (bs : List UInt8) (w : World) (hb : CellsB w a bs) (hcap : bs.length ≤ cap) (hz : a = none → bs.length = 0) :
    Calls Try.prog 8 #[.slice a bs.length cap] w fun e w' => e = .returned (.bool true) ∧ Below w.heap.size w w' := by
  have HZ := Lib.hid hz
  clear hz
  by_cases h1 : (4000 : Int) < (bs.length : Int)
  · clear hb
    go_enter Try.func8, Try.ntmps8
    go_wp2_with (go_at_call 11; refine (awake_any _).mono ?_; rintro e w1 ⟨rfl, hb1⟩)
    go_ret
    exact ⟨rfl, hb1⟩
  · have hsl : (sealed bs).length = bs.length + 4 := sealed_length bs
    have HL := Lib.hid hsl
    clear hsl
    go_enter Try.func8, Try.ntmps8
    go_wp2_with (first
      | (go_at_call 11; refine (awake_any _).mono ?_; rintro e w1 ⟨rfl, hb1⟩)
      | (go_at_call 19; refine (open_any a cap bs _ (hb.below hb1) hcap (by omega)).mono ?_; rintro e w2 ⟨a2, cap2, rfl, hown2, hd2⟩; have hb2 := bt hb1 hd2)
      | (go_at_call 20; refine (refOpen_any a cap bs _ (hb.below hb2) HZ.out hcap (by omega)).mono ?_; rintro e w3 ⟨a3, cap3, rfl, hown3, hd3⟩; have hb3 := bt hb2 hd3))
    have hX : ∀ W, Below w3.heap.size w3 W → (convert 23 9 (.slice a2 (opened bs).length cap2)).run Try.prog W = .ok (.string (strOf (opened bs))) W := fun W hW => run_convert_cells cap2 W (CellsB.below (RowAt.of_own hown2) (bt hd3 hW)) (own_none hown2)
    have hY : ∀ W, Below w3.heap.size w3 W → (convert 23 9 (.slice a3 (opened bs).length cap3)).run Try.prog W = .ok (.string (strOf (opened bs))) W := fun W hW => run_convert_cells cap3 W (CellsB.below (RowAt.of_own hown3) hW) (own_none hown3)
    have hr3 : Below w3.heap.size w3 w3.drew := (Below.refl _ _).drew
    generalize opened bs = ob at hX hY hown2 hown3
    generalize opens bs = ok
    clear hown2 hown3
    go_region_with (first
      | (go_at_call 18; refine (sealB_any a cap bs _ (by exact hb.below (bt hb3 hr3)) HZ.out (by omega)).mono ?_; rintro e w4 ⟨a4, cap4, rfl, hown4, hd4⟩; have hb4 := bt hr3 hd4; have hc4 : ∀ W, Below w4.heap.size w4 W → (convert 23 9 (.slice a4 (bs.length + 4) cap4)).run Try.prog W = .ok (.string (strOf (sealed bs))) W := (fun W hW => (by have := run_convert_cells cap4 W (CellsB.below (bs := sealed bs) (RowAt.of_own hown4) hW) (fun h => by rw [HL.out]; exact own_none hown4 h); rwa [HL.out] at this)); have hr4 := Below.refl w4.heap.size w4)
      | (go_at_call 21; refine (refSeal_any a cap bs _ (by exact hb.below (bt hb3 hb4)) HZ.out (by omega)).mono ?_; rintro e w5 ⟨a5, cap5, rfl, hown5, hd5⟩; have hb5 := bt hb4 hd5; have hc5 : (convert 23 9 (.slice a5 (bs.length + 4) cap5)).run Try.prog w5 = .ok (.string (strOf (sealed bs))) w5 := (by have := run_convert_cells cap5 w5 (bs := sealed bs) (RowAt.of_own hown5) (fun h => by rw [HL.out]; exact own_none hown5 h); rwa [HL.out] at this)))

    all_goals (simp only [Act.put, List.getElem_toArray, List.getElem_cons_succ, List.getElem_cons_zero, List.setIfInBounds_toArray, List.set_cons_zero, List.set_cons_succ]; go_wp2; go_ret; exact ⟨by simp, bt hb3 hb5⟩)
end Go.Proofs.Ytpfmncimhdljmaa
