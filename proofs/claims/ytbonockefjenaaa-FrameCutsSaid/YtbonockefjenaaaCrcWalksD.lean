/-
  The contracts of layer 1's functions, fourth part: the document's opening.
-/
import Derived.Test.YtbonockefjenaaaCrcWalksC
import Derived.Test.YtbonockefjenaaaBaseStr
import Derived.Lib.SlBytesConst
namespace Go.Proofs.Ytbonockefjenaaa
open Go.RowKit

theorem RowAt.marked (w : World) (cs : Array Value) (t : TypeId) (fr : Nat × Nat) : RowAt (w.alloc (.cells cs t fr)) (some ⟨w.heap.size, 0, none⟩) cs.toList := by
  refine .inr ⟨w.heap.size, 0, rfl, by simp, fun i u hi => ?_⟩
  rw [Nat.zero_add, cell_of_row _ _ _ cs t fr (heap_alloc_new w _)]
  simpa using hi
attribute [local go_sem ↓] Go.wp_at_zero Go.wp_at_succ
set_option maxHeartbeats 400000 in
theorem refOpen_any (a : Option Addr) (cap : Nat) (bs : List UInt8) (w : World) (hb : CellsB w a bs) (hz : a = none → bs.length = 0) (hcap : bs.length ≤ cap) (hl : bs.length ≤ 900000) :
    Calls Try.prog 23 #[.slice a bs.length cap] w (RetRowOk 5 1 (opened bs).length ((opened bs).map byteV) (opens bs) w) := by
  by_cases h4 : bs.length < 4
  · have ho : opens bs = false := by simp [opens]; omega
    have HO : Hid (opened bs = [] ∧ opens bs = false) := ⟨by simp [opened, ho], ho⟩
    clear ho hz hb
    have hd : decide ((bs.length : Int) - 4 < 0) = true := by simp; omega
    go_enter Try.func23, Try.ntmps23
    go_wp2
    go_quiet (fail)
    go_wp2
    go_ret2
    rw [HO.out.1, HO.out.2]
    exact ⟨none, 0, rfl, World.ownsRow_nil _ _ _ _, below_drewN (Below.refl _ _) _⟩
  · have hb4 : CellsB w a (bs.take (bs.length - 4)) := by
      unfold CellsB at hb ⊢; rw [take_map_byte]; exact hb.take _
    have hlen : (bs.take (bs.length - 4)).length = bs.length - 4 := by rw [List.length_take]; omega
    have hn : ((bs.length : Int) - 4).toNat = bs.length - 4 := by omega
    obtain ⟨b, off, rfl, hbl, _⟩ := hb.at (k := 0) (by omega)
    have hs : ∀ w, CellsB w (some ⟨b, off, none⟩) (bs.take (bs.length - 4)) → Calls Try.prog 19 #[.slice (some ⟨b, off, none⟩) (bs.length - 4) cap] w (RetRow 5 1 (sealed (bs.take (bs.length - 4))).length ((sealed (bs.take (bs.length - 4))).map byteV) w) := by
      intro w h
      have := refSeal_any (some ⟨b, off, none⟩) cap (bs.take (bs.length - 4)) w h (by simp) (by omega)
      rw [sealed_length]
      rwa [hlen] at this ⊢
    have hcv : ∀ W, Below w.heap.size w W → (convert 22 9 (.slice (some ⟨b, off, none⟩) bs.length cap)).run Try.prog W = .ok (.string (strOf bs)) W := fun W hW => run_convert_cells cap W (hb.below hW) hz
    have HS := Lib.hid hs
    have HL := Lib.hid hlen
    have HCV := Lib.hid hcv
    have HZ : Hid (∀ (A : Option Addr) (cap : Nat) (W : World), W.ownsRow w.heap.size 5 1 (.slice A (sealed (bs.take (bs.length - 4))).length cap) (sealed (bs.take (bs.length - 4))).length ((sealed (bs.take (bs.length - 4))).map byteV) → (convert 22 9 (.slice A (sealed (bs.take (bs.length - 4))).length cap)).run Try.prog W = .ok (.string (strOf (sealed (bs.take (bs.length - 4))))) W) :=
      fun A cap W h => run_convert_cells cap W (RowAt.of_own h) (own_none h)
    have hd : decide ((bs.length : Int) - 4 < 0) = false := by simp; omega
    have hi0 : (0 : Int) ≤ (bs.length : Int) - 4 := by omega
    have hi1 : (bs.length : Int) - 4 ≤ (cap : Int) := by omega
    have HQ : Hid ((!(strOf (sealed (bs.take (bs.length - 4)))).toList == (strOf bs).toList) = !decide (sealed (bs.take (bs.length - 4)) = bs)) := str_test _ _
    have HO : Hid (opens bs = decide (sealed (bs.take (bs.length - 4)) = bs) ∧ opened bs = if decide (sealed (bs.take (bs.length - 4)) = bs) = true then bs.take (bs.length - 4) else []) := by
      have : opens bs = decide (sealed (bs.take (bs.length - 4)) = bs) := by simp [opens]; omega
      exact ⟨this, by rw [opened, this]⟩
    clear hs hlen hcv hz
    generalize decide (sealed (bs.take (bs.length - 4)) = bs) = ok at HQ HO
    generalize sealed (bs.take (bs.length - 4)) = sl at HS HQ HZ
    go_enter Try.func23, Try.ntmps23
    go_upto_region 2 with (fail)
    go_cut [19] (fun v wr => v = .bool (!ok) ∧ Below w.heap.size w wr)
    case first =>
      have hcv := HCV.out
      have hbr : Below w.heap.size w w.drew := (Below.refl w.heap.size w).drew
      go_region_with (go_at_call 19; refine (HS.out _ (by exact hb4)).mono ?_; rintro e w1 ⟨a1, cap1, rfl, hown1, hb0⟩; have hb1 : Below w.heap.size w w1 := hbr.trans hb0; have hcv1 := HZ.out _ _ _ hown1)
      all_goals (go_wp2_with fail; go_meet; exact ⟨congrArg Value.bool HQ.out, hb1⟩)
    case rest =>
      obtain ⟨rfl, hbc⟩ := hcut
      cases ok
      · go_wp2
        go_ret2
        rw [HO.out.1, HO.out.2]
        exact ⟨none, 0, rfl, World.ownsRow_nil _ _ _ _, hbc⟩
      · go_wp2_with (at_builtin; refine wpList_append_row rfl (.const (.slice none 0 0)) (.tmp 22) rfl elemB w.heap.size (.slice none 0 0) 0 [] (by rfl) (World.ownsRow_nil _ _ _ _) (some ⟨b, off, none⟩) (bs.length - 4) cap ((bs.take (bs.length - 4)).map byteV) (by rfl) (by rw [List.length_map, HL.out]; simp) (hb4.below hbc) (byteV_one _) (by unfold maxLen; omega) (by omega) (by have := hbc.size; omega) (by simp) ?_; intro a1 c1 w1 hown1 hg1 hat1; simp only [Nat.zero_add, List.nil_append] at hown1)
        go_wp2
        go_ret2
        rw [HO.out.1, HO.out.2]
        simp only [if_true]
        rw [HL.out]
        exact ⟨a1, c1, rfl, hown1, Below.appended hbc (World.ownsRow_nil _ w.heap.size 5 1) hg1 hbc.size (Nat.le_refl _)⟩
end Go.Proofs.Ytbonockefjenaaa
