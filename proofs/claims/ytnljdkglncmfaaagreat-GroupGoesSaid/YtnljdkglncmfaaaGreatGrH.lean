/-
  A message is doubled.
-/
import Derived.Test.YtnljdkglncmfaaaGreatGrF
namespace Go.Proofs.YtnljdkglncmfaaaGreat
open Go.RowKit
set_option linter.unusedVariables false
set_option maxRecDepth 100000 in
set_option maxHeartbeats 6400000 in
theorem do_double {w : World} {G : Nat} {L : GL} {g : Gr} (h : GAt w G L g) (k : Nat) {x : Ms} (hx : g.net[k]? = some x) (b c : Int) (hnet : g.net.length ≤ 1000000) (ht : g.there 5 (k : Int) = 0) :
    Calls Tryz.prog 12 #[.pointer (some ⟨G, 0, none⟩), itV 5 (k : Int) b c] w (RetE (⟨g.ms, g.net ++ [x]⟩, 0) G L w) := by
  obtain ⟨hk, hkx⟩ := List.getElem?_eq_some_iff.1 hx
  obtain ⟨s, hs⟩ : ∃ s, L.sl[k]? = some s := ⟨_, List.getElem?_eq_getElem (by rw [h.net.len]; exact hk)⟩
  have hal := below1 w (.cells #[.int .i64 5, .int .i64 (k : Int), .int .i64 b, .int .i64 c] 31)
  have gF := blk_new w (.cells #[.int .i64 5, .int .i64 (k : Int), .int .i64 b, .int .i64 c] 31)
  have h0 := h.below hal
  have HTH := Lib.hid (there_any h0 5 (k : Int) b c)
  rw [ht] at HTH
  obtain ⟨c0, c1, c2, c3, f1, hlt⟩ := box4 gF
  have HG := Lib.hid h
  have hk0 : (0 : Int) ≤ (k : Int) := by omega
  have hk1 : (k : Int) < (g.net.length : Int) := by omega
  have hent := Lib.hid (h.net.ent hx hs)
  have hFG : w.heap.size ≠ G := by have := blk_lt h.blk; omega
  obtain ⟨xk, xf, xd, xt, xi, xl, xc, xy, xe⟩ := x
  obtain ⟨sa, sc⟩ := s
  clear h h0 ht
  go_enter Tryz.func12, Tryz.ntmps12
  go_upto_region 18 with (go_at_call 27; refine HTH.out.mono ?_; rintro e w1 ⟨rfl, hb1⟩; have hw1 := hal.trans (hb1.mono hal.size); have g1 := blk_keep hb1 gF; clear c0 c1 c2 c3 f1 hlt; obtain ⟨c0, c1, c2, c3, f1, hlt⟩ := box4 g1)
  have h1 := HG.out.below hw1
  obtain ⟨g0, g1c, gf0, gf1, glt⟩ := h1.cells
  obtain ⟨nb, noff, hna, nblt, x0, x1, x2, x3, x4, x5, x6, x7, x8⟩ := msg_nine (RowAt.of_own h1.net.own) hx hs
  simp only at x0 x1 x2 x3 x4 x5 x6 x7 x8
  have ho1 := h1.net.own
  have hone : ∀ u ∈ (Ms.mk xk xf xd xt xi xl xc xy xe).cells sa sc, u.oneCell' = true := msC_one _ _ _
  have HG1 := Lib.hid h1.blk
  have hGne : ∀ b, (Value.slice L.na g.net.length L.nc).ownBlock = some b → b ≠ G := fun b hb e => by
    subst e
    obtain ⟨cs, hcs⟩ := own_kind ho1 (gownBlock_mem hb)
    exact ne_kind hcs h1.blk (by decide) rfl
  have hna2 := hna
  rw [hna] at g1c ho1 hGne
  clear h1
  go_region_law (first
    | (refine step_append_row rfl (.tmp 85) (.tmp 94) rfl elemM 0 (.slice (some ⟨nb, noff, none⟩) g.net.length L.nc) g.net.length (msV g.net L.sl) (by rfl) (own_below ho1 ((below0 w1).drew.alloc (Nat.le_refl _) _)) (some ⟨w1.heap.size, 0, none⟩) 1 1 ((Ms.mk xk xf xd xt xi xl xc xy xe).cells sa sc) (by rfl) (by rfl) (RowAt.new w1.drew _ _) hone (by unfold maxLen; omega) (by omega) (Nat.zero_le _) (fun h => by cases h) ?_; intro a3 c3 w3 own3 hg3 hat3; have G3 := blk_grown hg3 (blk_alloc (blk_drawn HG1.out) (.cells ((Ms.mk xk xf xd xt xi xl xc xy xe).cells sa sc).toArray 78)) (fun e => hGne _ e rfl); obtain ⟨k0, k1, kf0, kf1, klt⟩ := box2 G3; (try go_simp)))
  all_goals go_wp2
  all_goals go_ret
  all_goals (
    have hbW : Below w.heap.size w (w1.drew.alloc (.cells ((Ms.mk xk xf xd xt xi xl xc xy xe).cells sa sc).toArray 78)) := (hw1.drew).trans ((below1 w1.drew _).mono hw1.size)
    have hC3 : Chg (blkOf L.na) w w3 := (Chg.of_below hbW).grown hg3 fun b hb => .inl (by rw [hna2]; exact gownBlock_mem hb)
    have hK : ∀ {B : Option Addr} {n cap : Nat} {xs : List Value}, w.ownsRow 0 42 7 (.slice B n cap) n xs → w3.ownsRow 0 42 7 (.slice B n cap) n xs := fun ho => own_chg ho hC3 fun y hy hA => by
      obtain ⟨cs, k1⟩ := own_kind ho hy
      obtain ⟨ds, k2⟩ := own_kind HG.out.net.own hA
      exact ne_kind k1 k2 (by decide) rfl
    have hms : MsAt w3 0 a3 c3 (g.net ++ [⟨xk, xf, xd, xt, xi, xl, xc, xy, xe⟩]) (L.sl ++ [(sa, sc)]) := by
      refine MsAt.mk2 (by rw [msV_snoc HG.out.net.len, List.length_append]; exact own3) (by simp [HG.out.net.len]) fun j y t hy ht => ?_
      by_cases hj : j < g.net.length
      · rw [List.getElem?_append_left hj] at hy
        rw [List.getElem?_append_left (by rw [HG.out.net.len]; exact hj)] at ht
        exact hK (HG.out.net.ent hy ht)
      · rw [List.getElem?_append_right (by omega)] at hy
        rw [List.getElem?_append_right (by rw [HG.out.net.len]; omega), HG.out.net.len] at ht
        have hj0 : j - g.net.length = 0 := by
          have := (List.getElem?_eq_some_iff.1 hy).1
          simp at this
          omega
        rw [hj0] at hy ht
        simp at hy ht
        subst hy ht
        exact hK hent.out
    obtain ⟨hG4, hC4, hS4⟩ := HG.out.netTo (B0 := w.heap.size) hC3 hms (fun s' hs' y hy r hr => by
      rcases List.mem_append.1 hs' with h1 | h1
      · exact HG.out.sep s' h1 y hy r hr
      · rw [List.mem_singleton] at h1; subst h1
        exact HG.out.sep _ (List.mem_of_getElem? hs) y hy r hr) (fun y hy => by
      rcases hat3 with h1 | h1
      · exact .inl (by rw [hna2]; exact gownBlock_mem (h1.symm.trans (gownBlock_of hy)))
      · have := (gownBlock_of (n := g.net.length + 1) (c := c3) hy).symm.trans h1
        injection this with this
        have h2 := hw1.size
        have h3 : (w1.drew.alloc (.cells ((Ms.mk xk xf xd xt xi xl xc xy xe).cells sa sc).toArray 78)).heap.size = w1.heap.size + 1 := by simp
        exact .inr (by first | omega | (simp at this; omega))) (fun s' hs' y hy => by
      rcases List.mem_append.1 hs' with h1 | h1
      · exact .inl (gall_s h1 hy)
      · rw [List.mem_singleton] at h1; subst h1
        exact .inl (gall_s (List.mem_of_getElem? hs) hy))
    have e : (g.net ++ [(⟨xk, xf, xd, xt, xi, xl, xc, xy, xe⟩ : Ms)]).length = g.net.length + 1 := by simp
    rw [e] at hG4 hC4
    exact ⟨rfl, _, hG4, hC4, hS4⟩)
end Go.Proofs.YtnljdkglncmfaaaGreat
