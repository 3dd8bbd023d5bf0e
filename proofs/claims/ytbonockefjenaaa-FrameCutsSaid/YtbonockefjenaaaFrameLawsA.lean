/-
  Layer 3's laws, first part: what is put.
-/
import Derived.Test.YtbonockefjenaaaFrameAwake
import Derived.Test.YtbonockefjenaaaOpenFrame
namespace Go.Proofs.Ytbonockefjenaaa
open Go.RowKit

set_option maxHeartbeats 1600000 in
theorem framePuts_walk (k : Int) (a : Option Addr) (cap : Nat) (bs : List UInt8) (w : World) (hb : CellsB w a bs) (hz : a = none → bs.length = 0) :
    Calls Try.prog 3 #[.agg #[.int .i64 k, .slice a bs.length cap]] w fun e w' => e = .returned (.bool true) ∧ Below w.heap.size w w' := by
  have HZ := Lib.hid hz
  clear hz
  by_cases h1 : (5000 : Int) < (bs.length : Int)
  · clear hb
    go_enter Try.func3, Try.ntmps3
    go_wp2_with (go_at_call 10; refine (frameAwake_any _).mono ?_; rintro e w1 ⟨rfl, hb1⟩; obtain ⟨hc0, hc1, hf0, hf1, hlt⟩ := two_cells hb1)
    go_ret
    exact ⟨rfl, alloc_below hb1⟩
  · go_enter Try.func3, Try.ntmps3
    go_wp2_with (first
      | (go_at_call 10; refine (frameAwake_any _).mono ?_; rintro e w1 ⟨rfl, hd1⟩; have hb1 := alloc_below hd1; obtain ⟨hc0, hc1, hf0, hf1, hlt⟩ := two_cells hd1)
      | (go_at_call 11; refine (put_any k a cap bs _ (hb.below hb1) HZ.out).mono ?_; rintro e w2 ⟨a2, c2, rfl, hown2, hd2⟩; have hb2 := bt hb1 hd2; clear hc0 hc1 hf0 hf1 hlt; obtain ⟨hc0, hc1, hf0, hf1, hlt⟩ := two_cells (bt hd1 hd2))
      | (go_at_call 12; refine (refPut_any k a cap bs _ (hb.below hb2) HZ.out).mono ?_; rintro e w3 ⟨a3, c3, rfl, hown3, hd3⟩; have hb3 := bt hb2 hd3; have hcv2 := run_convert_cells c2 w3 (CellsB.below (RowAt.of_own hown2) hd3) (own_none hown2); have hcv3 := run_convert_cells c3 w3 (RowAt.of_own hown3) (own_none hown3)))
    go_ret
    exact ⟨by simp, hb3⟩
end Go.Proofs.Ytbonockefjenaaa
