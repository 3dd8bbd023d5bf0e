/-
  Layer 2's laws: FieldsCuts.
-/
import Derived.Test.YtipngfdibcapjaaFieldsW
import Derived.Test.YtipngfdibcapjaaFieldsX
namespace Go.Proofs.Ytipngfdibcapjaa
open Go.RowKit
set_option linter.unusedVariables false
theorem tailP_fall {bs : List UInt8} {ns : List Int} {p : Nat} (h : (tailP bs ns p).1 ≠ 0) : (tailP bs ns p).2 = ([], [], 0) := by
  unfold tailP at h ⊢
  by_cases c1 : bs.length < p + 2
  · rw [if_pos c1]
  · rw [if_neg c1] at h ⊢
    by_cases c2 : 4096 < szP bs p
    · rw [if_pos c2]
    · rw [if_neg c2] at h ⊢
      by_cases c3 : bs.length < p + 2 + szP bs p
      · rw [if_pos c3]
      · rw [if_neg c3] at h; exact (h rfl).elim
theorem cutP_fall {bs : List UInt8} (h : (cutP bs).1 ≠ 0) : (cutP bs).2 = ([], [], 0) := by
  unfold cutP at h ⊢
  by_cases c1 : bs.length = 0
  · rw [if_pos c1]
  · rw [if_neg c1] at h ⊢
    by_cases c2 : (numsA bs (bs.getD 0 0).toNat 1 []).1 = 0
    · rw [if_pos c2] at h ⊢; exact tailP_fall h
    · rw [if_neg c2]
theorem cutP_len (bs : List UInt8) : (cutP bs).2.1.length ≤ 255 := by
  by_cases h : (cutP bs).1 = 0
  · exact (packE_zero (cutP_back (bs := bs) (Prod.ext h rfl)).1).1
  · rw [cutP_fall h]; exact Nat.zero_le _
theorem unpackP_len (bs : List UInt8) : (unpackP bs).2.1.length ≤ 255 := by
  unfold unpackP
  split
  · exact Nat.zero_le _
  · exact cutP_len bs
set_option maxRecDepth 100000 in
set_option maxHeartbeats 6400000 in
theorem fieldsCuts_walk (a : Option Addr) (cap : Nat) (bs : List UInt8) (w : World) (hb : BytesIn w a cap bs) :
    Calls Try.prog 7 #[.slice a bs.length cap] w fun e w' => e = .returned (.bool true) ∧ Below w.heap.size w w' := by
  by_cases h1 : (6000 : Int) < (bs.length : Int)
  · clear hb
    go_enter Try.func7, Try.ntmps7
    go_wp2_with (go_at_call 11; refine (fieldsAwake_any _).mono ?_; rintro e w1 ⟨rfl, hw1⟩)
    go_ret
    exact ⟨rfl, hw1⟩
  have hlm : bs.length ≤ 1000000 := by omega
  have HC : Hid (∀ W, Below w.heap.size w W → Calls Try.prog 16 #[.slice a bs.length cap] W (RetCut (cutP bs) W)) := fun W h => cut_any a cap bs W (hb.cells.below h) hb.cap hb.none_ hlm
  have HR : Hid (∀ W, Below w.heap.size w W → Calls Try.prog 18 #[.slice a bs.length cap] W (RetCut (cutP bs) W)) := fun W h => refCut_any a cap bs W (hb.cells.below h) hb.cap hb.none_ hlm
  have HU : Hid (∀ W, Below w.heap.size w W → Calls Try.prog 19 #[.slice a bs.length cap] W (RetUn (unpackP bs) W)) := fun W h => unpack_any a cap bs W (hb.cells.below h) hb.cap hb.none_ hlm
  have HV : Hid (∀ W, Below w.heap.size w W → Calls Try.prog 20 #[.slice a bs.length cap] W (RetUn (unpackP bs) W)) := fun W h => refUnpack_any a cap bs W (hb.cells.below h) hb.cap hb.none_ hlm
  have hl1 := cutP_len bs
  have hl2 := unpackP_len bs
  generalize cutP bs = r at HC HR hl1
  generalize unpackP bs = u at HU HV hl2
  obtain ⟨r0, r1, r2, rn⟩ := r
  obtain ⟨u0, u1, u2⟩ := u
  simp only at hl1 hl2
  have HS : Hid (∀ W a c d cd a' c' d' cd', FlIn W a d r1 r2 → FlIn W a' d' r1 r2 → Calls Try.prog 17 #[.agg #[.slice a r1.length c, .slice d r2.length cd], .agg #[.slice a' r1.length c', .slice d' r2.length cd']] W fun e w' => e = .returned (.bool true) ∧ Below W.heap.size W w') := fun W a c d cd a' c' d' cd' h h' => sameF_eq a c d cd a' c' d' cd' r1 r2 W h h' (by omega)
  have HT : Hid (∀ W a c d cd a' c' d' cd', FlIn W a d u1 u2 → FlIn W a' d' u1 u2 → Calls Try.prog 17 #[.agg #[.slice a u1.length c, .slice d u2.length cd], .agg #[.slice a' u1.length c', .slice d' u2.length cd']] W fun e w' => e = .returned (.bool true) ∧ Below W.heap.size W w') := fun W a c d cd a' c' d' cd' h h' => sameF_eq a c d cd a' c' d' cd' u1 u2 W h h' (by omega)
  clear hb hl1 hl2 hlm
  go_enter Try.func7, Try.ntmps7
  go_wp2_with (first
    | (go_at_call 11; refine (fieldsAwake_any _).mono ?_; rintro en w1 ⟨rfl, hw1⟩; have hw := hw1)
    | (go_at_call 16; refine (HC.out _ hw).mono ?_; rintro en w2 ⟨a2, c2, d2, e2, rfl, oi2, ob2, hb2⟩; have fl2 : FlIn (w2.alloc (.cells #[.slice a2 r1.length c2, .slice d2 r2.length e2] 25)) a2 d2 r1 r2 := FlIn.below ⟨RowAt.of_own oi2, RowAt.of_own ob2, own_none ob2⟩ (below1 w2 (.cells #[.slice a2 r1.length c2, .slice d2 r2.length e2] 25)); replace hw := (hw.trans (hb2.mono hw.size)).alloc (hw.trans (hb2.mono hw.size)).size (.cells #[.slice a2 r1.length c2, .slice d2 r2.length e2] 25); have g2 := blk_new w2 (.cells #[.slice a2 r1.length c2, .slice d2 r2.length e2] 25))
    | (go_at_call 18; refine (HR.out _ hw).mono ?_; rintro en w3 ⟨a3, c3, d3, e3, rfl, oi3, ob3, hb3⟩; have fl3 : FlIn (w3.alloc (.cells #[.slice a3 r1.length c3, .slice d3 r2.length e3] 25)) a3 d3 r1 r2 := FlIn.below ⟨RowAt.of_own oi3, RowAt.of_own ob3, own_none ob3⟩ (below1 w3 (.cells #[.slice a3 r1.length c3, .slice d3 r2.length e3] 25)); replace hw := (hw.trans (hb3.mono hw.size)).alloc (hw.trans (hb3.mono hw.size)).size (.cells #[.slice a3 r1.length c3, .slice d3 r2.length e3] 25); have g3 := blk_new w3 (.cells #[.slice a3 r1.length c3, .slice d3 r2.length e3] 25); replace g2 := blk_alloc (blk_keep hb3 g2) (.cells #[.slice a3 r1.length c3, .slice d3 r2.length e3] 25); replace fl2 := (fl2.below hb3).below (below1 w3 (.cells #[.slice a3 r1.length c3, .slice d3 r2.length e3] 25)))
    | (go_at_call 19; refine (HU.out _ hw).mono ?_; rintro en w4 ⟨a4, c4, d4, e4, rfl, oi4, ob4, hb4⟩; have fl4 : FlIn (w4.alloc (.cells #[.slice a4 u1.length c4, .slice d4 u2.length e4] 25)) a4 d4 u1 u2 := FlIn.below ⟨RowAt.of_own oi4, RowAt.of_own ob4, own_none ob4⟩ (below1 w4 (.cells #[.slice a4 u1.length c4, .slice d4 u2.length e4] 25)); replace hw := (hw.trans (hb4.mono hw.size)).alloc (hw.trans (hb4.mono hw.size)).size (.cells #[.slice a4 u1.length c4, .slice d4 u2.length e4] 25); have g4 := blk_new w4 (.cells #[.slice a4 u1.length c4, .slice d4 u2.length e4] 25); replace g2 := blk_alloc (blk_keep hb4 g2) (.cells #[.slice a4 u1.length c4, .slice d4 u2.length e4] 25); replace fl2 := (fl2.below hb4).below (below1 w4 (.cells #[.slice a4 u1.length c4, .slice d4 u2.length e4] 25)); replace g3 := blk_alloc (blk_keep hb4 g3) (.cells #[.slice a4 u1.length c4, .slice d4 u2.length e4] 25); replace fl3 := (fl3.below hb4).below (below1 w4 (.cells #[.slice a4 u1.length c4, .slice d4 u2.length e4] 25)))
    | (go_at_call 20; refine (HV.out _ hw).mono ?_; rintro en w5 ⟨a5, c5, d5, e5, rfl, oi5, ob5, hb5⟩; have fl5 : FlIn (w5.alloc (.cells #[.slice a5 u1.length c5, .slice d5 u2.length e5] 25)) a5 d5 u1 u2 := FlIn.below ⟨RowAt.of_own oi5, RowAt.of_own ob5, own_none ob5⟩ (below1 w5 (.cells #[.slice a5 u1.length c5, .slice d5 u2.length e5] 25)); replace hw := (hw.trans (hb5.mono hw.size)).alloc (hw.trans (hb5.mono hw.size)).size (.cells #[.slice a5 u1.length c5, .slice d5 u2.length e5] 25); have g5 := blk_new w5 (.cells #[.slice a5 u1.length c5, .slice d5 u2.length e5] 25); replace g2 := blk_alloc (blk_keep hb5 g2) (.cells #[.slice a5 u1.length c5, .slice d5 u2.length e5] 25); replace fl2 := (fl2.below hb5).below (below1 w5 (.cells #[.slice a5 u1.length c5, .slice d5 u2.length e5] 25)); replace g3 := blk_alloc (blk_keep hb5 g3) (.cells #[.slice a5 u1.length c5, .slice d5 u2.length e5] 25); replace fl3 := (fl3.below hb5).below (below1 w5 (.cells #[.slice a5 u1.length c5, .slice d5 u2.length e5] 25)); replace g4 := blk_alloc (blk_keep hb5 g4) (.cells #[.slice a5 u1.length c5, .slice d5 u2.length e5] 25); replace fl4 := (fl4.below hb5).below (below1 w5 (.cells #[.slice a5 u1.length c5, .slice d5 u2.length e5] 25)); obtain ⟨x2, y2, _, _, _⟩ := box2 g2; obtain ⟨x3, y3, _, _, _⟩ := box2 g3; obtain ⟨x4, y4, _, _, _⟩ := box2 g4; obtain ⟨x5, y5, _, _, _⟩ := box2 g5)
    | (go_at_call 17; (with_reducible refine (HS.out _ _ _ _ _ _ _ _ _ fl2 fl3).mono ?_); rintro en w6 ⟨rfl, hb6⟩; replace hw := hw.trans (hb6.mono hw.size); replace g2 := blk_keep hb6 g2; replace fl2 := fl2.below hb6; obtain ⟨x2, y2, _, _, _⟩ := box2 g2; replace g3 := blk_keep hb6 g3; replace fl3 := fl3.below hb6; obtain ⟨x3, y3, _, _, _⟩ := box2 g3; replace g4 := blk_keep hb6 g4; replace fl4 := fl4.below hb6; obtain ⟨x4, y4, _, _, _⟩ := box2 g4; replace g5 := blk_keep hb6 g5; replace fl5 := fl5.below hb6; obtain ⟨x5, y5, _, _, _⟩ := box2 g5)
    | (go_at_call 17; (with_reducible refine (HT.out _ _ _ _ _ _ _ _ _ fl4 fl5).mono ?_); rintro en w7 ⟨rfl, hb7⟩; replace hw := hw.trans (hb7.mono hw.size); replace g2 := blk_keep hb7 g2; replace fl2 := fl2.below hb7; obtain ⟨x2, y2, _, _, _⟩ := box2 g2; replace g3 := blk_keep hb7 g3; replace fl3 := fl3.below hb7; obtain ⟨x3, y3, _, _, _⟩ := box2 g3; replace g4 := blk_keep hb7 g4; replace fl4 := fl4.below hb7; obtain ⟨x4, y4, _, _, _⟩ := box2 g4; replace g5 := blk_keep hb7 g5; replace fl5 := fl5.below hb7; obtain ⟨x5, y5, _, _, _⟩ := box2 g5))
  go_ret
  exact ⟨by simp, hw⟩
end Go.Proofs.Ytipngfdibcapjaa
