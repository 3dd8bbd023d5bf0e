/-
  The contracts of layer 1's functions, fourth part: the document's opening; what is asked of the program first.
-/
import Derived.Test.YtpfmncimhdljmaaCrcWalksC
import Derived.Test.YtpfmncimhdljmaaBaseStr
import Derived.Lib.SlBytesConst
namespace Go.Proofs.Ytpfmncimhdljmaa
open Go.RowKit

def nine : List UInt8 := [49, 50, 51, 52, 53, 54, 55, 56, 57]
theorem sum_nine : U (sum nine) = 3421780262 := by decide +kernel
theorem sum_none : U (sum []) = 0 := by decide +kernel
theorem RowAt.marked (w : World) (cs : Array Value) (t : TypeId) (fr : Nat × Nat) : RowAt (w.alloc (.cells cs t fr)) (some ⟨w.heap.size, 0, none⟩) cs.toList := by
  refine .inr ⟨w.heap.size, 0, rfl, by simp, fun i u hi => ?_⟩
  rw [Nat.zero_add, cell_of_row _ _ _ cs t fr (heap_alloc_new w _)]
  simpa using hi
set_option maxHeartbeats 400000 in
theorem awake_any (w : World) :
    Calls Try.prog 11 #[] w fun e w' => e = .returned (.bool true) ∧ Below w.heap.size w w' := by
  have h9 : ∀ W, Calls Try.prog 14 #[.slice (some ⟨W.heap.size, 0, none⟩) 9 9] (W.alloc (.cells #[.int .u8 49, .int .u8 50, .int .u8 51, .int .u8 52, .int .u8 53, .int .u8 54, .int .u8 55, .int .u8 56, .int .u8 57] 5 (9, 10))) fun e w' => e = .returned (.int .u32 3421780262) ∧ Below W.heap.size W w' := fun W => by
    refine (sum_any (some ⟨W.heap.size, 0, none⟩) 9 nine _ (RowAt.marked W _ _ _) (by decide)).mono ?_
    rintro e w' ⟨rfl, hb⟩
    exact ⟨by rw [sum_nine], ((Below.refl _ _).alloc (Nat.le_refl _) _).trans (hb.mono (by simp))⟩
  have h0 : ∀ W, Calls Try.prog 14 #[.slice none 0 0] W fun e w' => e = .returned (.int .u32 0) ∧ Below W.heap.size W w' := fun W => by
    refine (sum_any none 0 [] W RowAt.nil (by decide)).mono ?_
    rintro e w' ⟨rfl, hb⟩
    exact ⟨by rw [sum_none], hb⟩
  have h1 : ∀ W, Calls Try.prog 18 #[.slice (some ⟨W.heap.size, 0, none⟩) 1 1] (W.alloc (.cells #[.int .u8 97] 5 (1, 2))) fun e w' => ∃ a cap, e = .returned (.slice a 5 cap) ∧ Below W.heap.size W w' := fun W => by
    refine (sealB_any (some ⟨W.heap.size, 0, none⟩) 1 [97] _ (RowAt.marked W _ _ _) (by simp) (by decide)).mono ?_
    rintro e w' ⟨a, cap, rfl, _, hb⟩
    exact ⟨a, cap, rfl, ((Below.refl _ _).alloc (Nat.le_refl _) _).trans (hb.mono (by simp))⟩
  have H9 := Lib.hid h9
  have H0 := Lib.hid h0
  have H1 := Lib.hid h1
  clear h9 h0 h1
  have kc := fun (w : World) (C : Array Value) (n c : Nat) => Lib.run_convert_bytes_const (P := Try.prog) w 23 5 C n c Try.underlying23 Try.underlying5
  go_enter Try.func11, Try.ntmps11
  go_wp2_with fail
  refine (H9.out _).mono ?_
  rintro e w1 ⟨rfl, hb1⟩
  go_wp2_with fail
  refine (H0.out _).mono ?_
  rintro e w2 ⟨rfl, hb2⟩
  go_wp2_with fail
  refine (H1.out _).mono ?_
  rintro e w3 ⟨a, cap, rfl, hb3⟩
  go_wp2_with fail
  go_ret
  exact ⟨rfl, (hb1.trans (hb2.mono hb1.size)).trans (hb3.mono (hb1.trans (hb2.mono hb1.size)).size)⟩
attribute [local go_sem ↓] Go.wp_at_zero Go.wp_at_succ
set_option maxHeartbeats 400000 in
theorem refOpen_any (a : Option Addr) (cap : Nat) (bs : List UInt8) (w : World) (hb : CellsB w a bs) (hz : a = none → bs.length = 0) (hcap : bs.length ≤ cap) (hl : bs.length ≤ 900000) :
    Calls Try.prog 20 #[.slice a bs.length cap] w (RetRowOk 5 1 (opened bs).length ((opened bs).map byteV) (opens bs) w) := by
  by_cases h4 : bs.length < 4
  · have ho : opens bs = false := by simp [opens]; omega
    have HO : Hid (opened bs = [] ∧ opens bs = false) := ⟨by simp [opened, ho], ho⟩
    clear ho hz hb
    have hd : decide ((bs.length : Int) - 4 < 0) = true := by simp; omega
    go_enter Try.func20, Try.ntmps20
    go_wp2
    go_quiet (fail)
    go_wp2
    go_ret2
    rw [HO.out.1, HO.out.2]
    exact ⟨none, 0, rfl, World.ownsRow_nil _ _ _ _, below_drewN (Below.refl _ _) _⟩
  · have hb4 : CellsB w a (bs.take (bs.length - 4)) := by
      unfold CellsB at hb ⊢; rw [take_map_byte]; exact hb.take _
    have hlen : (bs.take (bs.length - 4)).length = bs.length - 4 := by rw [List.length_take]; omega
    have hn : ((bs.length : Int) - 4).toNat = bs.length - 4 := by omega
    obtain ⟨b, off, rfl, hbl, _⟩ := hb.at (k := 0) (by omega)
    have hs : ∀ w, CellsB w (some ⟨b, off, none⟩) (bs.take (bs.length - 4)) → Calls Try.prog 21 #[.slice (some ⟨b, off, none⟩) (bs.length - 4) cap] w (RetRow 5 1 (sealed (bs.take (bs.length - 4))).length ((sealed (bs.take (bs.length - 4))).map byteV) w) := by
      intro w h
      have := refSeal_any (some ⟨b, off, none⟩) cap (bs.take (bs.length - 4)) w h (by simp) (by omega)
      rw [sealed_length]
      rwa [hlen] at this ⊢
    have hcv : ∀ W, Below w.heap.size w W → (convert 23 9 (.slice (some ⟨b, off, none⟩) bs.length cap)).run Try.prog W = .ok (.string (strOf bs)) W := fun W hW => run_convert_cells cap W (hb.below hW) hz
    have HS := Lib.hid hs
    have HL := Lib.hid hlen
    have HCV := Lib.hid hcv
    have HZ : Hid (∀ (A : Option Addr) (cap : Nat) (W : World), W.ownsRow w.heap.size 5 1 (.slice A (sealed (bs.take (bs.length - 4))).length cap) (sealed (bs.take (bs.length - 4))).length ((sealed (bs.take (bs.length - 4))).map byteV) → (convert 23 9 (.slice A (sealed (bs.take (bs.length - 4))).length cap)).run Try.prog W = .ok (.string (strOf (sealed (bs.take (bs.length - 4))))) W) :=
      fun A cap W h => run_convert_cells cap W (RowAt.of_own h) (own_none h)
    have hd : decide ((bs.length : Int) - 4 < 0) = false := by simp; omega
    have hi0 : (0 : Int) ≤ (bs.length : Int) - 4 := by omega
    have hi1 : (bs.length : Int) - 4 ≤ (cap : Int) := by omega
    have HQ : Hid ((!(strOf (sealed (bs.take (bs.length - 4)))).toList == (strOf bs).toList) = !decide (sealed (bs.take (bs.length - 4)) = bs)) := str_test _ _
    have HO : Hid (opens bs = decide (sealed (bs.take (bs.length - 4)) = bs) ∧ opened bs = if decide (sealed (bs.take (bs.length - 4)) = bs) = true then bs.take (bs.length - 4) else []) := by
      have : opens bs = decide (sealed (bs.take (bs.length - 4)) = bs) := by simp [opens]; omega
      exact ⟨this, by rw [opened, this]⟩
    clear hs hlen hcv hz
    generalize decide (sealed (bs.take (bs.length - 4)) = bs) = ok at HQ HO
    generalize sealed (bs.take (bs.length - 4)) = sl at HS HQ HZ
    go_enter Try.func20, Try.ntmps20
    go_upto_region 2 with (fail)
    go_cut [19] (fun v wr => v = .bool (!ok) ∧ Below w.heap.size w wr)
    case first =>
      have hcv := HCV.out
      have hbr : Below w.heap.size w w.drew := (Below.refl w.heap.size w).drew
      go_region_with (go_at_call 21; refine (HS.out _ (by exact hb4)).mono ?_; rintro e w1 ⟨a1, cap1, rfl, hown1, hb0⟩; have hb1 : Below w.heap.size w w1 := hbr.trans hb0; have hcv1 := HZ.out _ _ _ hown1)
      all_goals (go_wp2_with fail; go_meet; exact ⟨congrArg Value.bool HQ.out, hb1⟩)
    case rest =>
      obtain ⟨rfl, hbc⟩ := hcut
      cases ok
      · go_wp2
        go_ret2
        rw [HO.out.1, HO.out.2]
        exact ⟨none, 0, rfl, World.ownsRow_nil _ _ _ _, hbc⟩
      · go_wp2_with (at_builtin; refine wpList_append_row rfl (.const (.slice none 0 0)) (.tmp 22) rfl elemB w.heap.size (.slice none 0 0) 0 [] (by rfl) (World.ownsRow_nil _ _ _ _) (some ⟨b, off, none⟩) (bs.length - 4) cap ((bs.take (bs.length - 4)).map byteV) (by rfl) (by rw [List.length_map, HL.out]; simp) (hb4.below hbc) (byteV_one _) (by unfold maxLen; omega) (by omega) (by have := hbc.size; omega) (by simp) ?_; intro a1 c1 w1 hown1 hg1 hat1; simp only [Nat.zero_add, List.nil_append] at hown1)
        go_wp2
        go_ret2
        rw [HO.out.1, HO.out.2]
        simp only [if_true]
        rw [HL.out]
        exact ⟨a1, c1, rfl, hown1, Below.appended hbc (World.ownsRow_nil _ w.heap.size 5 1) hg1 hbc.size (Nat.le_refl _)⟩
end Go.Proofs.Ytpfmncimhdljmaa
