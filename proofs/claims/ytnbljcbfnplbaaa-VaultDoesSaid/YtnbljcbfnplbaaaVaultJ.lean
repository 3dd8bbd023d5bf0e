/-
  Crash.
-/
import Derived.Test.YtnbljcbfnplbaaaVaultI
import Derived.Test.YtnbljcbfnplbaaaVaultE
namespace Go.Proofs.Ytnbljcbfnplbaaa
open Go.RowKit
set_option linter.unusedVariables false
set_option maxRecDepth 100000 in
set_option maxHeartbeats 6400000 in
theorem crash_any (V base : Nat) (x : Vt) (keep : Int) (w : World) (h : VtAt w V base x) (hV : V < base) (hb : base ≤ w.heap.size) (hx : VtOk x) (hl : x.1.length ≤ 900000) : Calls Try.prog 13 #[.pointer (some ⟨V, 0, none⟩), .int .i64 keep] w fun e w' => e = .returned (.tuple #[]) ∧ VtAt w' V base (crashV x keep) ∧ Only V w w' := by
  have hcn := crashN_le hx.sync keep
  obtain ⟨D, cd, A, c, g, o1, o2⟩ := h
  obtain ⟨bs, n, t, v, es⟩ := x
  have hsy := hx.sync
  simp only at g o1 o2 hl hcn hsy
  have hcd := own_le' o1
  unfold crashV
  simp only
  have hm : crashN (bs, n, t, v, es) keep = n + (max keep 0 % ((bs.length : Int) - (n : Int) + 1)).toNat := rfl
  generalize crashN (bs, n, t, v, es) keep = m at hm hcn ⊢
  have hmi : ((n : Int) + max keep 0 % ((bs.length : Int) - (n : Int) + 1)) = (m : Int) := by
    have : 0 ≤ max keep 0 % ((bs.length : Int) - (n : Int) + 1) := Int.emod_nonneg _ (by omega)
    omega
  have hml : (bs.take m).length = m := by rw [List.length_take]; omega
  have HR : Hid (∀ W, Below w.heap.size w W → Calls Try.prog 32 #[.slice D m cd] W (RetRead (readV (bs.take m)) W)) := fun W hW => by
    have := read_any D cd (bs.take m) W (((show CellsB w D bs from RowAt.of_own o1).take m).below hW) (by omega) (by omega)
    rwa [hml] at this
  have hr2 := readV_le (bs.take m)
  rw [hml] at hr2
  have htt : (bs.take m).take (readV (bs.take m)).2 = bs.take (readV (bs.take m)).2 := by rw [List.take_take, Nat.min_eq_left hr2]
  generalize readV (bs.take m) = r at HR hr2 htt ⊢
  obtain ⟨⟨t', v', es'⟩, k⟩ := r
  simp only at hr2 ⊢
  have hkl : (bs.take k).length = k := by rw [List.length_take]; omega
  have HKL := Lib.hid hkl
  have HC : Hid (∀ W, W.ownsRow base 5 1 (.slice D bs.length cd) bs.length (bs.map byteV) → Calls Try.prog 28 #[.slice D k cd] W (RetRow 5 1 k ((bs.take k).map byteV) W)) := fun W hW => by
    have := cloneC_any D cd (bs.take k) W ((show CellsB W D bs from RowAt.of_own hW).take k) (fun h0 => by have := own_none hW h0; omega) (by omega)
    rwa [hkl] at this
  have HSY : Hid (∀ W y, VtAt W V base y → Calls Try.prog 12 #[.pointer (some ⟨V, 0, none⟩)] W fun e w' => e = .returned (.tuple #[]) ∧ VtAt w' V base (syncV y) ∧ Only V W w') := fun W y h => sync_any V base y W h hV
  obtain ⟨c0, c1, c2, c3, c4, f0, f1, f2, f3, f4, hlt⟩ := box5 g
  clear hm hml htt hkl hx
  go_enter Try.func13, Try.ntmps13
  go_wp2
  go_quiet (fail)
  go_wp2_with (first
    | (go_at_call 32; refine (HR.out _ (Below.many (below0 w) _)).mono ?_; rintro e w1 ⟨A1, c1, rfl, ownA, hb1⟩; simp only at ownA; have hw1 := (Below.many (below0 w) nq).trans hb1; have g1 := blk_keep hw1 g; have o1b := own_below o1 hw1; have ownA' := own_base (base' := base) ownA hb; have gS : (((w1.setCell ⟨V, 2, none⟩ (.int .i64 t')).setCell ⟨V, 3, none⟩ (.int .i64 v')).setCell ⟨V, 4, none⟩ (.slice A1 es'.length c1)).heap[V]? = some (.cells #[.slice D bs.length cd, .int .i64 (n : Nat), .int .i64 t', .int .i64 v', .slice A1 es'.length c1] 63) := blk_set (i := 4) (blk_set (i := 3) (blk_set (i := 2) g1 (.int .i64 t')) (.int .i64 v')) (.slice A1 es'.length c1); have oS : (((w1.setCell ⟨V, 2, none⟩ (.int .i64 t')).setCell ⟨V, 3, none⟩ (.int .i64 v')).setCell ⟨V, 4, none⟩ (.slice A1 es'.length c1)).ownsRow base 5 1 (.slice D bs.length cd) bs.length (bs.map byteV) := ownsRow_setCell_below (ownsRow_setCell_below (ownsRow_setCell_below o1b (a := ⟨V, 2, none⟩) hV _) (a := ⟨V, 3, none⟩) hV _) (a := ⟨V, 4, none⟩) hV _; have oA : (((w1.setCell ⟨V, 2, none⟩ (.int .i64 t')).setCell ⟨V, 3, none⟩ (.int .i64 v')).setCell ⟨V, 4, none⟩ (.slice A1 es'.length c1)).ownsRow base 41 7 (.slice A1 es'.length c1) es'.length (ensV es') := ownsRow_setCell_below (ownsRow_setCell_below (ownsRow_setCell_below ownA' (a := ⟨V, 2, none⟩) hV _) (a := ⟨V, 3, none⟩) hV _) (a := ⟨V, 4, none⟩) hV _; have hO : Only V w (((w1.setCell ⟨V, 2, none⟩ (.int .i64 t')).setCell ⟨V, 3, none⟩ (.int .i64 v')).setCell ⟨V, 4, none⟩ (.slice A1 es'.length c1)) := (((Only.of_below hw1).setCell 2 _).setCell 3 _).setCell 4 _; obtain ⟨d0, d1, d2, d3, d4, e0, e1, e2, e3, e4, dlt⟩ := box5 g1)
    | (go_at_call 28; refine (HC.out _ oS).mono ?_; rintro e w2 ⟨D2, cap2, rfl, own2, hb2⟩; have g2 := blk_keep hb2 gS; have oA2 := own_below oA hb2; have hO2 := hO.trans (Only.of_below hb2); have own2' := own_base (base' := base) own2 (Nat.le_trans hb hO.size); obtain ⟨d0, d1, d2, d3, d4, e0, e1, e2, e3, e4, dlt⟩ := box5 g2)
    | (go_at_call 12; refine (HSY.out _ (bs.take k, n, t', v', es') ?hat).mono ?_; rotate_left 1; rintro e w4 ⟨rfl, hv4, hO4⟩))
  · have hs : syncV (bs.take k, n, t', v', es') = (bs.take k, k, t', v', es') := by unfold syncV; simp only [HKL.out]
    rw [hs] at hv4
    refine bodyPost_end (results_none rfl _ _ _) rfl ?_
    exact ⟨rfl, hv4, (hO2.setCell 0 _).trans hO4⟩
  · refine ⟨D2, cap2, A1, c1, ?_, ?_, ?_⟩
    · simp only [HKL.out]
      exact blk_set (i := 0) g2 (.slice D2 k cap2)
    · simp only [HKL.out]
      exact ownsRow_setCell_below own2' (a := ⟨V, 0, none⟩) hV _
    · exact ownsRow_setCell_below oA2 (a := ⟨V, 0, none⟩) hV _
end Go.Proofs.Ytnbljcbfnplbaaa
