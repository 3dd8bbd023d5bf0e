/-
  The contracts of layer 3's functions: what the document gets.
-/
import Derived.Test.YtbonockefjenaaaFrameWalksB
namespace Go.Proofs.Ytbonockefjenaaa
open Go.RowKit

theorem get_err {bs : List UInt8} {E : Int} (h : sizeE bs = E) (h0 : E ≠ 0) : getE bs = E ∧ getN bs = 0 ∧ getF bs = (0, []) := by
  have : getE bs = E := by unfold getE; rw [if_neg (by omega), h]
  exact ⟨this, by unfold getN; rw [if_neg (by omega)], by unfold getF; rw [if_neg (by omega)]⟩
theorem get_bad {bs : List UInt8} (h : sizeE bs = 0) (ho : opens (bs.take (sizeN bs)) = false) : getE bs = 4 ∧ getN bs = 0 ∧ getF bs = (0, []) := by
  have : getE bs = 4 := by unfold getE; rw [if_pos h, if_neg (by rw [ho]; decide)]
  exact ⟨this, by unfold getN; rw [if_neg (by omega)], by unfold getF; rw [if_neg (by omega)]⟩
theorem get_good {bs : List UInt8} (h : sizeE bs = 0) (ho : opens (bs.take (sizeN bs)) = true) : getE bs = 0 ∧ getN bs = sizeN bs ∧ getF bs = (((bs.getD 1 0).toNat : Int), (opened (bs.take (sizeN bs))).drop 4) := by
  have hn := sizeN_pos h
  have : getE bs = 0 := by unfold getE; rw [if_pos h, if_pos ho]
  have hl : (bs.take (sizeN bs)).length = sizeN bs := by rw [List.length_take]; omega
  exact ⟨this, by unfold getN; rw [if_pos this], by unfold getF opened; rw [if_pos this, if_pos ho, hl]⟩
/-- Two blocks of two cells that were made ahead of what followed. -/
theorem two_blocks {w w1 : World} {x y u v : Value} {t : TypeId} (hb : Below ((w.alloc (.cells #[x, y] t)).alloc (.cells #[u, v] t)).heap.size ((w.alloc (.cells #[x, y] t)).alloc (.cells #[u, v] t)) w1) :
    w1.cell? ⟨w.heap.size, 0, none⟩ = some x ∧ w1.cell? ⟨w.heap.size, 1, none⟩ = some y ∧ w1.cell? ⟨w.heap.size + 1, 0, none⟩ = some u ∧ w1.cell? ⟨w.heap.size + 1, 1, none⟩ = some v ∧
    w1.frozen? ⟨w.heap.size, 0, none⟩ = false ∧ w1.frozen? ⟨w.heap.size, 1, none⟩ = false ∧ w.heap.size + 1 < w1.heap.size ∧ Below w.heap.size w w1 := by
  have hs : (w.alloc (.cells #[x, y] t)).heap.size = w.heap.size + 1 := by simp
  have h1 := two_cells hb
  rw [hs] at h1
  have h2 : Below (w.alloc (.cells #[x, y] t)).heap.size (w.alloc (.cells #[x, y] t)) w1 := alloc_below hb
  have h3 := two_cells h2
  exact ⟨h3.1, h3.2.1, h1.1, h1.2.1, h3.2.2.1, h3.2.2.2.1, h1.2.2.2.2, alloc_below h2⟩
set_option maxHeartbeats 3200000 in
theorem refGet_any (a : Option Addr) (cap : Nat) (bs : List UInt8) (w : World) (hb : CellsB w a bs) (hcap : bs.length ≤ cap) (hz : a = none → bs.length = 0) (hl : bs.length ≤ 900000) :
    Calls Try.prog 14 #[.slice a bs.length cap] w (RetGet (getF bs) (getN bs) (getE bs) w) := by
  by_cases h0 : bs.length = 0
  · have he := Lib.hid (get_err (bs := bs) (E := 3) (by unfold sizeE; rw [if_pos h0]) (by omega))
    have ht : ((bs.length : Int) == 0) = true := by simp [h0]
    clear hb h0 hz
    go_enter Try.func14, Try.ntmps14
    go_wp2
    refine bodyPost_ret (v := .tuple #[.agg #[.int .i64 0, .slice none 0 0], .int .i64 0, .int .i64 3]) (by simp [results, Try.results14, go_sem]) rfl ?_
    rw [he.out.1, he.out.2.1, he.out.2.2]
    exact ⟨none, 0, rfl, RowAt.nil, fun _ => rfl, ⟨Nat.le_refl _, fun h => (h rfl).elim⟩, ((Below.refl _ _).alloc (Nat.le_refl _) _).alloc (by simp) _⟩
  · have ht : ((bs.length : Int) == 0) = false := beq_eq_false_iff_ne.2 (by omega)
    have hp : 0 < bs.length := by omega
    obtain ⟨b, off, rfl, hbl, hc0⟩ := hb.at hp
    have hc0' : w.cell? ⟨b, off, none⟩ = some (.int .u8 ((bs.getD 0 0).toNat : Int)) := hc0
    clear hc0
    by_cases h1 : (bs.getD 0 0).toNat = 83
    · have ht1 : (((bs.getD 0 0).toNat : Int) != 83) = false := by rw [h1]; rfl
      by_cases h4 : bs.length < 4
      · have he := Lib.hid (get_err (bs := bs) (E := 3) (by unfold sizeE; rw [if_neg h0, if_neg (fun h => h h1), if_pos h4]) (by omega))
        have h4i : (bs.length : Int) < 4 := by omega
        clear hb h1 hz
        generalize (bs.getD 0 0).toNat = B0 at hc0' ht1
        go_enter Try.func14, Try.ntmps14
        go_wp2
        refine bodyPost_ret (v := .tuple #[.agg #[.int .i64 0, .slice none 0 0], .int .i64 0, .int .i64 3]) (by simp [results, Try.results14, go_sem]) rfl ?_
        rw [he.out.1, he.out.2.1, he.out.2.2]
        exact ⟨none, 0, rfl, RowAt.nil, fun _ => rfl, ⟨Nat.le_refl _, fun h => (h rfl).elim⟩, ((Below.refl _ _).alloc (Nat.le_refl _) _).alloc (by simp) _⟩
      · have hc2 := hb.pick rfl (k := 2) (by omega)
        have hc3 := hb.pick rfl (k := 3) (by omega)
        have hc1 := hb.pick rfl (k := 1) (by omega)
        have HN : Hid (lenOf bs = (bs.getD 2 0).toNat * 256 + (bs.getD 3 0).toNat) := rfl
        have hl2 := (bs.getD 2 0).toNat_lt
        have hl3 := (bs.getD 3 0).toNat_lt
        have h4i : (4 : Int) ≤ (bs.length : Int) := by omega
        have hi1 : (1 : Int) < (bs.length : Int) := by omega
        have hi2 : (2 : Int) < (bs.length : Int) := by omega
        have hi3 : (3 : Int) < (bs.length : Int) := by omega
        have hE : Hid (sizeE bs = if 4096 < lenOf bs then 7 else if bs.length < lenOf bs + 8 then 3 else 0) := by
          unfold sizeE; rw [Hid, if_neg h0, if_neg (fun h => h h1), if_neg h4]
        have hN : Hid (sizeE bs = 0 → sizeN bs = lenOf bs + 8) := fun h => by unfold sizeN; rw [if_pos h]
        have HC1 := Lib.hid hc1
        clear h1 hc1
        generalize (bs.getD 0 0).toNat = B0 at hc0' ht1
        generalize (bs.getD 2 0).toNat = B2 at hc2 HN hl2
        generalize (bs.getD 3 0).toNat = B3 at hc3 HN hl3
        have hsum : (B2 : Int) * 256 + (B3 : Int) = (lenOf bs : Int) := by rw [HN.out]; omega
        have hL : lenOf bs < 65536 := by rw [HN.out]; omega
        clear HN
        generalize lenOf bs = L at hsum hL hE hN
        by_cases h5 : (4096 : Int) < (L : Int)
        · have he := Lib.hid (get_err (bs := bs) (E := 7) (by rw [hE.out, if_pos (by omega)]) (by omega))
          clear hz hb
          go_enter Try.func14, Try.ntmps14
          go_wp2
          go_quiet (fail)
          go_wp2
          refine bodyPost_ret (v := .tuple #[.agg #[.int .i64 0, .slice none 0 0], .int .i64 0, .int .i64 7]) (by simp [results, Try.results14, go_sem]) rfl ?_
          rw [he.out.1, he.out.2.1, he.out.2.2]
          exact ⟨none, 0, rfl, RowAt.nil, fun _ => rfl, ⟨Nat.le_refl _, fun h => (h rfl).elim⟩, ((((below_drewN (((Below.refl _ _).alloc (Nat.le_refl _) _).alloc (by simp) _) _).setCell (p := ⟨w.heap.size, 0, none⟩) (Nat.le_refl _) _)).setCell (p := ⟨w.heap.size, 1, none⟩) (Nat.le_refl _) _)⟩
        · by_cases h6 : (bs.length : Int) < (L : Int) + 8
          · have he := Lib.hid (get_err (bs := bs) (E := 3) (by rw [hE.out, if_neg (by omega), if_pos (by omega)]) (by omega))
            clear hz hb
            go_enter Try.func14, Try.ntmps14
            go_wp2
            go_quiet (fail)
            go_wp2
            refine bodyPost_ret (v := .tuple #[.agg #[.int .i64 0, .slice none 0 0], .int .i64 0, .int .i64 3]) (by simp [results, Try.results14, go_sem]) rfl ?_
            rw [he.out.1, he.out.2.1, he.out.2.2]
            exact ⟨none, 0, rfl, RowAt.nil, fun _ => rfl, ⟨Nat.le_refl _, fun h => (h rfl).elim⟩, ((((below_drewN (((Below.refl _ _).alloc (Nat.le_refl _) _).alloc (by simp) _) _).setCell (p := ⟨w.heap.size, 0, none⟩) (Nat.le_refl _) _)).setCell (p := ⟨w.heap.size, 1, none⟩) (Nat.le_refl _) _)⟩
          · have hs0 : sizeE bs = 0 := by rw [hE.out, if_neg (by omega), if_neg (by omega)]
            have hn := hN.out hs0
            have htl : Hid ((bs.take (sizeN bs)).length = sizeN bs) := by rw [Hid, List.length_take, hn]; omega
            have ho : Hid (∀ W, CellsB W (some ⟨b, off, none⟩) bs → Calls Try.prog 23 #[.slice (some ⟨b, off, none⟩) (sizeN bs) cap] W (RetRowOk 5 1 (opened (bs.take (sizeN bs))).length ((opened (bs.take (sizeN bs))).map byteV) (opens (bs.take (sizeN bs))) W)) := fun W h => by
              have := refOpen_any (some ⟨b, off, none⟩) cap (bs.take (sizeN bs)) W (h.take _) (by simp) (by rw [htl.out, hn]; omega) (by rw [htl.out, hn]; omega)
              rwa [htl.out] at this
            have hnc : L + 8 ≤ cap := by omega
            have hncI : (L : Int) + 8 ≤ (cap : Int) := by omega
            have hsl : Hid (∀ W, (Instr.slice 22 (.slice (some ⟨b, off, none⟩) bs.length cap) none (some (.int .i64 ((L : Int) + 8))) none).run Try.prog W = .ok (.slice (some ⟨b, off, none⟩) (L + 8) cap) W) := fun W => by
              have := slice_to (some ⟨b, off, none⟩) bs.length cap (L + 8) hnc W
              simpa using this
            by_cases hop : opens (bs.take (sizeN bs)) = true
            · have he := Lib.hid (get_good hs0 hop)
              have hxl : Hid ((opened (bs.take (sizeN bs))).length = L + 4) := by unfold opened; rw [Hid, if_pos hop, List.length_take, htl.out, hn]; omega
              rw [hop, hxl.out] at ho
              rw [hn] at he ho hxl
              generalize opened (bs.take (L + 8)) = X at he hxl ho
              have hB := (bs.getD 1 0).toNat_lt
              generalize (bs.getD 1 0).toNat = B1 at he hB HC1
              have hw : IntKind.i64.wrap (B1 : Int) = (B1 : Int) := by rw [IntKind.wrap_i64]; omega
              have hwL : IntKind.i64.wrap ((L : Int) + 8) = (L : Int) + 8 := by rw [IntKind.wrap_i64]; omega
              have HW := Lib.hid hw
              have HWL := Lib.hid hwL
              clear hz hw hwL hop htl
              go_enter Try.func14, Try.ntmps14
              go_wp2
              go_quiet (fail)
              have hs1 := hsl.out
              go_wp2_with (go_at_call 23; refine (ho.out _ (by exact (hb.alloc _).alloc _)).mono ?_; rintro e w1 ⟨a1, cap1, rfl, hown1, hd1⟩; obtain ⟨hc00, hc01, hc10, hc11, hf0, hf1, hlt, hb1⟩ := two_blocks (bt (below_drewN (Below.refl _ _) _) hd1))
              obtain ⟨g, cg, hv, hgb, hgl⟩ := hown1.form (by omega)
              cases hv
              have hcx := HC1.out
              rw [← hb1.cell (p := ⟨b, off + 1, none⟩) hbl] at hcx
              have hgw : w.heap.size < g := by simp at hgb; omega
              have hLi : (4 : Int) ≤ (L : Int) + 4 := by omega
              have hLn : (4 : Int) ≤ ((L + 4 : Nat) : Int) := by omega
              have hbw : b ≠ w.heap.size := by omega
              have hfar : ∀ u v, ((w1.setCell ⟨w.heap.size, 0, none⟩ u).setCell ⟨w.heap.size, 1, none⟩ v).cell? ⟨b, off + 1, none⟩ = w1.cell? ⟨b, off + 1, none⟩ := fun u v => World.cell?_of_block ((Below.heap_setCell _ ⟨w.heap.size, 1, none⟩ v b hbw).trans (Below.heap_setCell _ ⟨w.heap.size, 0, none⟩ u b hbw))
              have hw := HW.out
              have hwL := HWL.out
              go_region_held3 (fun W => W.cell? ⟨b, off + 1, none⟩ = some (.int .u8 (B1 : Int))) (first | exact hcx | exact (hfar _ _).trans hcx) (fail)
              clear hw hwL
              generalize hA : (if cap1 = 4 then some (⟨g, 0, none⟩ : Addr) else some ⟨g, 4, none⟩) = A4
              have HA : Hid (cutA (some ⟨g, 0, none⟩) cap1 4 = A4) := by rw [Hid, ← hA]; rfl
              clear hA
              go_wp2
              refine bodyPost_ret (v := .tuple #[.agg #[.int .i64 (B1 : Int), .slice A4 L (cap1 - 4)], .int .i64 ((L : Int) + 8), .int .i64 0]) (by simp [results, Try.results14, go_sem, hc00, hc01]) rfl ?_
              have hown2 := ownsRow_setCell_below (ownsRow_setCell_below hown1 (a := ⟨w.heap.size, 0, none⟩) (by simp; omega) (.int .i64 (B1 : Int))) (a := ⟨w.heap.size, 1, none⟩) (by simp; omega) (.slice A4 L (cap1 - 4))
              have hcut := CellsB.cut (bs := X) (RowAt.of_own hown2) cap1 4 (by rw [hxl.out]; exact own_le hown2)
              have hdl : (X.drop 4).length = L := by have h1 := hxl.out; have h2 : (X.drop 4).length = X.length - 4 := List.length_drop; omega
              have hnn := cutA_none (l := 4) (cap := cap1) (own_none hown2)
              rw [HA.out] at hcut hnn
              have hle := own_le hown2
              rw [he.out.1, he.out.2.1, he.out.2.2]
              refine ⟨A4, cap1 - 4, ?_, hcut, ?_, ?_, ((hb1.setCell (p := ⟨w.heap.size, 0, none⟩) (Nat.le_refl _) _).setCell (p := ⟨w.heap.size, 1, none⟩) (Nat.le_refl _) _).drew⟩
              · rw [hdl]; rfl
              · intro h; have := hnn h; rw [hdl]; omega
              · refine ⟨by rw [hdl]; omega, fun _ b off ha => ?_⟩
                have hcu := HA.out
                rw [ha] at hcu
                have hbg : b = g := by
                  unfold cutA at hcu
                  split at hcu
                  · cases hcu; rfl
                  · cases hcu; rfl
                rw [hbg]; omega
            · have hop : opens (bs.take (sizeN bs)) = false := by simpa using hop
              have he := Lib.hid (get_bad hs0 hop)
              have hx : Hid (opened (bs.take (sizeN bs)) = []) := by unfold opened; rw [Hid, if_neg (by rw [hop]; decide)]
              rw [hop, hx.out, hn] at ho
              clear hz hop hx htl
              go_enter Try.func14, Try.ntmps14
              go_wp2
              go_quiet (fail)
              have hs1 := hsl.out
              go_wp2_with (go_at_call 23; refine (ho.out _ (by exact (hb.alloc _).alloc _)).mono ?_; rintro e w1 ⟨a1, cap1, rfl, hown1, hd1⟩; obtain ⟨hc00, hc01, hc10, hc11, hf0, hf1, hlt, hb1⟩ := two_blocks (bt (below_drewN (Below.refl _ _) _) hd1))
              go_wp2
              refine bodyPost_ret (v := .tuple #[.agg #[.int .i64 0, .slice none 0 0], .int .i64 0, .int .i64 4]) (by simp [results, Try.results14, go_sem, hc00, hc01]) rfl ?_
              rw [he.out.1, he.out.2.1, he.out.2.2]
              exact ⟨none, 0, rfl, RowAt.nil, fun _ => rfl, ⟨Nat.le_refl _, fun h => (h rfl).elim⟩, (hb1.setCell (p := ⟨w.heap.size, 0, none⟩) (Nat.le_refl _) _).setCell (p := ⟨w.heap.size, 1, none⟩) (Nat.le_refl _) _⟩
    · have he := Lib.hid (get_err (bs := bs) (E := 2) (by unfold sizeE; rw [if_neg h0, if_pos h1]) (by omega))
      have ht1 : (((bs.getD 0 0).toNat : Int) != 83) = true := by
        simp only [bne_iff_ne, ne_eq]; omega
      clear hb h1 hz
      generalize (bs.getD 0 0).toNat = B0 at hc0' ht1
      go_enter Try.func14, Try.ntmps14
      go_wp2
      refine bodyPost_ret (v := .tuple #[.agg #[.int .i64 0, .slice none 0 0], .int .i64 0, .int .i64 2]) (by simp [results, Try.results14, go_sem]) rfl ?_
      rw [he.out.1, he.out.2.1, he.out.2.2]
      exact ⟨none, 0, rfl, RowAt.nil, fun _ => rfl, ⟨Nat.le_refl _, fun h => (h rfl).elim⟩, ((Below.refl _ _).alloc (Nat.le_refl _) _).alloc (by simp) _⟩
end Go.Proofs.Ytbonockefjenaaa
