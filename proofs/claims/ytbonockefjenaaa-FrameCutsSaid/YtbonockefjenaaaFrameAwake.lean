/-
  What layer 3's laws ask of the program first.
-/
import Derived.Test.YtbonockefjenaaaFrameWalksC
namespace Go.Proofs.Ytbonockefjenaaa
open Go.RowKit

attribute [local go_sem ↓] Go.wp_at_zero Go.wp_at_succ
theorem put_five : putE (5, []) = 0 ∧ putB (5, []) = sealed [83, 5, 0, 0] := ⟨by decide, by rw [putB_eq (by decide)]; rfl⟩
theorem conv_five (a : Option Addr) (c : Nat) (W : World) (h : CellsB W a (sealed [83, 5, 0, 0])) (hz : a = none → 8 = 0) : (convert 22 9 (.slice a 8 c)).run Try.prog W = .ok (.string (strOf (sealed [83, 5, 0, 0]))) W := by
  have hl : (sealed [83, 5, 0, 0]).length = 8 := sealed_length _
  have := run_convert_cells c W h (by rw [hl]; exact hz)
  rwa [hl] at this
set_option maxHeartbeats 1600000 in
theorem frameAwake_any (w : World) :
    Calls Try.prog 10 #[] w fun e w' => e = .returned (.bool true) ∧ Below w.heap.size w w' := by
  have h1 : Hid (∀ W, Calls Try.prog 11 #[.agg #[.int .i64 5, .slice none 0 0]] W (RetRowE 5 1 8 ((sealed [83, 5, 0, 0]).map byteV) 0 W)) := fun W => by
    have := put_any 5 none 0 [] W RowAt.nil (fun _ => rfl)
    rw [put_five.1, put_five.2] at this
    exact this
  have h2 : Hid (∀ W W0, Below W0.heap.size W0 W → Calls Try.prog 18 #[.slice (some ⟨W.heap.size, 0, none⟩) 4 4] (W.alloc (.cells #[.int .u8 83, .int .u8 5, .int .u8 0, .int .u8 0] 5)) fun e w' => ∃ a c, e = .returned (.slice a 8 c) ∧ (convert 22 9 (.slice a 8 c)).run Try.prog w' = .ok (.string (strOf (sealed [83, 5, 0, 0]))) w' ∧ Below W0.heap.size W0 w') := fun W W0 hW => by
    refine (sealB_any (some ⟨W.heap.size, 0, none⟩) 4 [83, 5, 0, 0] _ (RowAt.new W _ _) (by simp) (by decide)).mono ?_
    rintro e w' ⟨a, c, rfl, hown, hb⟩
    exact ⟨a, c, rfl, conv_five a c w' (RowAt.of_own hown) (own_none hown), bt hW (alloc_below hb)⟩
  go_enter Try.func10, Try.ntmps10
  go_wp2_with (go_at_call 11; refine (h1.out _).mono ?_; rintro e w1 ⟨a1, c1, rfl, hown1, hb1⟩)
  have hcv : ∀ W, Below w1.heap.size w1 W → (convert 22 9 (.slice a1 8 c1)).run Try.prog W = .ok (.string (strOf (sealed [83, 5, 0, 0]))) W := fun W hW => conv_five a1 c1 W (CellsB.below (RowAt.of_own hown1) hW) (own_none hown1)
  have hr : Below w1.heap.size w1 w1.drew := (Below.refl _ _).drew
  have hr2 : ∀ o, Below w1.heap.size w1 (w1.alloc o).drew := fun o => ((Below.refl _ _).alloc (Nat.le_refl _) o).drew
  generalize strOf (sealed [83, 5, 0, 0]) = ss at h2 hcv
  go_region_with (go_at_call 18; refine (h2.out w1.drew w1 hr).mono ?_; rintro e w2 ⟨a2, c2, rfl, hcv2, hb2⟩)
  all_goals (simp only [Act.put, List.getElem_toArray, List.getElem_cons_succ, List.getElem_cons_zero, List.setIfInBounds_toArray, List.set_cons_zero, List.set_cons_succ]; go_wp2; go_ret; exact ⟨by simp, bt hb1 hb2⟩)
end Go.Proofs.Ytbonockefjenaaa
