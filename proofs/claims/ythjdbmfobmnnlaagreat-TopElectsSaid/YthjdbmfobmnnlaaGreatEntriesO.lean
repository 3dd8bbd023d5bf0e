/-
  Layer 4: at most so many entries from an index on.
-/
import Derived.Test.YthjdbmfobmnnlaaGreatEntriesJo
namespace Go.Proofs.YthjdbmfobmnnlaaGreat
open Go.RowKit
set_option linter.unusedVariables false
/-- At most so many entries from an index on. -/
def fromF (b t : Int) (es : List En) (i most : Int) : List En := fromL (fairL b t es).1 (fairL b t es).2.2 i most
set_option maxHeartbeats 3200000 in
theorem from_any (b t : Int) (a : Option Addr) (cap : Nat) (es : List En) (i most : Int) (w : World) (hl : LogIn w a cap es) :
    Calls Tryz.prog 117 #[logV b t a es.length cap, .int .i64 i, .int .i64 most] w (RetRow 82 7 (fromF b t es i most).length (ensV (fromF b t es i most)) w) := by
  have HM : Hid (∀ W, Below w.heap.size w W → Calls Tryz.prog 35 #[logV b t a es.length cap] W fun e w' => e = .returned (logV (fairL b t es).1 (fairL b t es).2.1 (fairA b t es a cap).1 (fairL b t es).2.2.length (fairA b t es a cap).2) ∧ Below W.heap.size W w') := fun W h => fair_any b t a cap es W (hl.below h)
  have hmay := fairL_may b t es
  have hlf := hl.fair b t
  unfold fromF
  clear hl
  generalize fairA b t es a cap = A at HM hlf
  generalize fairL b t es = l at HM hmay hlf
  obtain ⟨B, T, l⟩ := l
  obtain ⟨a', cap'⟩ := A
  simp only at HM hmay hlf ⊢
  obtain ⟨h1, h2, _, _, _, h6, hx⟩ := mayL_true hmay
  have h6' : (l.length : Int) ≤ 64 := by omega
  clear hmay hx
  by_cases e1 : i ≤ B
  · clear hlf
    rw [show fromL B l i most = [] from fromL_none (by omega)]
    go_enter Tryz.func117, Tryz.ntmps117
    go_wp2_with (go_at_call 35; refine (HM.out _ (below1 _ _)).mono ?_; rintro e w1 ⟨rfl, hb1⟩; have hF := blk_keep hb1 (blk_new _ _); obtain ⟨hc0, hc1, hc2, hf0, hf1, hf2, hlt⟩ := box3 hF; have hw2 := set3_below (alloc_below hb1) (Nat.le_refl _) (.int .i64 B) (.int .i64 T) (.slice a' l.length cap'))
    go_ret
    exact ⟨Option.none, 0, rfl, World.ownsRow_nil _ _ _ _, hw2⟩
  by_cases e2 : B + (l.length : Int) < i
  · clear hlf
    rw [show fromL B l i most = [] from fromL_none (by omega)]
    go_enter Tryz.func117, Tryz.ntmps117
    go_wp2_with (go_at_call 35; refine (HM.out _ (below1 _ _)).mono ?_; rintro e w1 ⟨rfl, hb1⟩; have hF := blk_keep hb1 (blk_new _ _); obtain ⟨hc0, hc1, hc2, hf0, hf1, hf2, hlt⟩ := box3 hF; have hw2 := set3_below (alloc_below hb1) (Nat.le_refl _) (.int .i64 B) (.int .i64 T) (.slice a' l.length cap'))
    go_ret
    exact ⟨Option.none, 0, rfl, World.ownsRow_nil _ _ _ _, hw2⟩
  by_cases e3 : most ≤ 0
  · clear hlf
    rw [show fromL B l i most = [] from fromL_none (by omega)]
    go_enter Tryz.func117, Tryz.ntmps117
    go_wp2_with (go_at_call 35; refine (HM.out _ (below1 _ _)).mono ?_; rintro e w1 ⟨rfl, hb1⟩; have hF := blk_keep hb1 (blk_new _ _); obtain ⟨hc0, hc1, hc2, hf0, hf1, hf2, hlt⟩ := box3 hF; have hw2 := set3_below (alloc_below hb1) (Nat.le_refl _) (.int .i64 B) (.int .i64 T) (.slice a' l.length cap'))
    go_ret
    exact ⟨Option.none, 0, rfl, World.ownsRow_nil _ _ _ _, hw2⟩
  obtain ⟨k, hk⟩ : ∃ k : Nat, i - B - 1 = (k : Int) := ⟨(i - B - 1).toNat, by omega⟩
  have hkl : k < l.length := by omega
  rw [show fromL B l i most = (l.drop k).take most.toNat by rw [fromL_some (by omega), show (i - B - 1).toNat = k by omega]]
  have hs1 : ∀ W, (Instr.slice 34 (.slice a' l.length cap') (some (.int .i64 (i - B - 1))) none none).run Tryz.prog W = .ok (.slice (cutS a' cap' k 7) (l.length - k) (cap' - k)) W := fun W => by
    rw [hk]
    exact slice_fromS (P := Tryz.prog) elemE a' l.length cap' k (by omega) W
  have hrow := hlf.row.cutS cap' k 7 (by rw [ensV_length]; exact Nat.mul_le_mul_right _ hlf.cap)
  rw [ensV_drop] at hrow
  have hnone := cutS_none (a := a') (cap := cap') (l := k) (size := 7) (n := l.length) hlf.none_
  have hcap1 : l.length - k ≤ cap' - k := Nat.sub_le_sub_right hlf.cap k
  have hlen : (l.drop k).length = l.length - k := List.length_drop
  generalize hr : l.length - k = r at *
  generalize cap' - k = c1 at *
  generalize cutS a' cap' k 7 = A1 at *
  generalize hL : l.drop k = L1 at *
  have HK := Lib.hid hk
  have hi0 : 0 ≤ i - B - 1 := by omega
  have hi1 : i - B - 1 ≤ l.length := by omega
  have hr64 : (r : Int) ≤ 64 := by omega
  have hrp : (1 : Int) ≤ (r : Int) := by omega
  clear hlf hk hL
  by_cases hmo : (r : Int) ≤ most
  · have hT : L1.take most.toNat = L1 := List.take_of_length_le (by omega)
    rw [hT, hlen]
    have hs2 : ∀ W, (Instr.slice 34 (.slice A1 r c1) none (some (.int .i64 (r : Int))) none).run Tryz.prog W = .ok (.slice A1 r c1) W := fun W => slice_toS (P := Tryz.prog) elemE A1 r c1 r hcap1 W
    have HClo : Hid (∀ W, Below w.heap.size w W → Calls Tryz.prog 80 #[.slice A1 r c1] W (RetRow 82 7 r (ensV L1) W)) := fun W h => by
      have := clone_any A1 c1 L1 W ⟨hrow.below h, by omega, fun h => by have := hnone h; omega, by unfold maxLen; omega⟩ (by omega)
      rwa [hlen] at this
    clear hrow hnone hT hlen
    go_enter Tryz.func117, Tryz.ntmps117
    go_wp2_with (first
      | (go_at_call 35; refine (HM.out _ (below1 _ _)).mono ?_; rintro e w1 ⟨rfl, hb1⟩; have hF := blk_keep hb1 (blk_new _ _); obtain ⟨hc0, hc1, hc2, hf0, hf1, hf2, hlt⟩ := box3 hF; have hw2 := set3_below (alloc_below hb1) (Nat.le_refl _) (.int .i64 B) (.int .i64 T) (.slice a' l.length cap'))
      | (go_at_call 80; refine (HClo.out _ hw2).mono ?_; rintro e w3 ⟨a3, c3, rfl, hown3, hb3⟩))
    go_ret
    exact ⟨a3, c3, rfl, own_base hown3 hw2.size, hw2.trans (hb3.mono hw2.size)⟩
  · obtain ⟨m, rfl⟩ : ∃ m : Nat, most = (m : Int) := ⟨most.toNat, by omega⟩
    have hmr : m < r := by omega
    have hlm : (L1.take m).length = m := by rw [List.length_take]; omega
    rw [Int.toNat_natCast, hlm]
    have hs2 : ∀ W, (Instr.slice 34 (.slice A1 r c1) none (some (.int .i64 (m : Int))) none).run Tryz.prog W = .ok (.slice A1 m c1) W := fun W => slice_toS (P := Tryz.prog) elemE A1 r c1 m (by omega) W
    have HClo : Hid (∀ W, Below w.heap.size w W → Calls Tryz.prog 80 #[.slice A1 m c1] W (RetRow 82 7 m (ensV (L1.take m)) W)) := fun W h => by
      have hrm := (hrow.below h).take (m * 7)
      rw [ensV_take] at hrm
      have := clone_any A1 c1 (L1.take m) W ⟨hrm, by omega, fun h => by have := hnone h; omega, by unfold maxLen; omega⟩ (by omega)
      rwa [hlm] at this
    have hm1 : (1 : Int) ≤ (m : Int) := by omega
    have hm2 : (m : Int) ≤ (r : Int) := by omega
    have hm3 : (m : Int) < (r : Int) := by omega
    clear hrow hnone hlm hlen
    go_enter Tryz.func117, Tryz.ntmps117
    go_wp2_with (first
      | (go_at_call 35; refine (HM.out _ (below1 _ _)).mono ?_; rintro e w1 ⟨rfl, hb1⟩; have hF := blk_keep hb1 (blk_new _ _); obtain ⟨hc0, hc1, hc2, hf0, hf1, hf2, hlt⟩ := box3 hF; have hw2 := set3_below (alloc_below hb1) (Nat.le_refl _) (.int .i64 B) (.int .i64 T) (.slice a' l.length cap'))
      | (go_at_call 80; refine (HClo.out _ hw2).mono ?_; rintro e w3 ⟨a3, c3, rfl, hown3, hb3⟩))
    go_ret
    exact ⟨a3, c3, rfl, own_base hown3 hw2.size, hw2.trans (hb3.mono hw2.size)⟩
end Go.Proofs.YthjdbmfobmnnlaaGreat
