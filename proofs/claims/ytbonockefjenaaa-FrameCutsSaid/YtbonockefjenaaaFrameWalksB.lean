/-
  The contracts of layer 3's functions: what is got.
-/
import Derived.Test.YtbonockefjenaaaFrameWalks
namespace Go.Proofs.Ytbonockefjenaaa
open Go.RowKit

/-- A frame, how many bytes it has, and an error. -/
def RetGet (f : Fr) (n : Nat) (err : Int) (w : World) (en : Ending) (w' : World) : Prop :=
  ∃ a cap, en = .returned (.tuple #[.agg #[.int .i64 f.1, .slice a f.2.length cap], .int .i64 n, .int .i64 err]) ∧ CellsB w' a f.2 ∧ (a = none → f.2.length = 0) ∧ (f.2.length ≤ cap ∧ (f.2.length ≠ 0 → ∀ b off, a = some ⟨b, off, none⟩ → w.heap.size ≤ b)) ∧ Below w.heap.size w w'
theorem own_from {w : World} {base : Nat} {e : TypeId} {size n cap : Nat} {A : Option Addr} {xs : List Value} (h : w.ownsRow base e size (.slice A n cap) n xs) : n ≠ 0 → ∀ b off, A = some ⟨b, off, none⟩ → base ≤ b := fun h0 b off ha => by
  obtain ⟨g, c, hv, hb, _⟩ := h.form (by omega)
  cases hv
  cases ha
  exact hb
/-- A block of two cells that was made ahead of what followed. -/
theorem two_cells {w w1 : World} {x y : Value} {t : TypeId} (hb : Below (w.alloc (.cells #[x, y] t)).heap.size (w.alloc (.cells #[x, y] t)) w1) :
    w1.cell? ⟨w.heap.size, 0, none⟩ = some x ∧ w1.cell? ⟨w.heap.size, 1, none⟩ = some y ∧ w1.frozen? ⟨w.heap.size, 0, none⟩ = false ∧ w1.frozen? ⟨w.heap.size, 1, none⟩ = false ∧ w.heap.size < w1.heap.size := by
  have hs : w.heap.size < (w.alloc (.cells #[x, y] t)).heap.size := by simp
  have e : ∀ i, w1.cell? ⟨w.heap.size, i, none⟩ = (#[x, y] : Array Value)[i]? := fun i => by
    rw [hb.cell (p := ⟨w.heap.size, i, none⟩) hs]
    exact cell_of_row _ _ _ _ _ (0, 0) (heap_alloc_new w _)
  have g : ∀ i, w1.frozen? ⟨w.heap.size, i, none⟩ = false := fun i => by
    rw [hb.frozen (p := ⟨w.heap.size, i, none⟩) hs]
    exact frozen_of_row _ _ _ _ _ (heap_alloc_new w _)
  exact ⟨e 0, e 1, g 0, g 1, Nat.lt_of_lt_of_le hs hb.size⟩
theorem alloc_below {w w1 : World} {o : Obj} (hb : Below (w.alloc o).heap.size (w.alloc o) w1) : Below w.heap.size w w1 := ((Below.refl _ _).alloc (Nat.le_refl _) o).trans (hb.mono (by simp))
set_option maxHeartbeats 1600000 in
theorem get_any (a : Option Addr) (cap : Nat) (bs : List UInt8) (w : World) (hb : CellsB w a bs) (hcap : bs.length ≤ cap) (hl : bs.length ≤ 900000) :
    Calls Try.prog 13 #[.slice a bs.length cap] w (RetGet (getF bs) (getN bs) (getE bs) w) := by
  have hs : ∀ W, CellsB W a bs → Calls Try.prog 20 #[.slice a bs.length cap] W fun e w' => e = .returned (.tuple #[.int .i64 (sizeN bs), .int .i64 (sizeE bs)]) ∧ Below W.heap.size W w' := fun W h => size_any a cap bs W h hl
  have HS := Lib.hid hs
  clear hs
  by_cases h1 : sizeE bs = 0
  · have hn := sizeN_pos h1
    have hnc : sizeN bs ≤ cap := by omega
    have hlb : sizeN bs ≤ bs.length := hn.2.1
    have htl : Hid ((bs.take (sizeN bs)).length = sizeN bs) := by rw [Hid, List.length_take]; omega
    have ho : Hid (∀ W, CellsB W a bs → Calls Try.prog 21 #[.slice a (sizeN bs) cap] W (RetRowOk 5 1 (opened (bs.take (sizeN bs))).length ((opened (bs.take (sizeN bs))).map byteV) (opens (bs.take (sizeN bs))) W)) := fun W h => by
      have := open_any a cap (bs.take (sizeN bs)) W (h.take _) (by rw [htl.out]; exact hnc) (by rw [htl.out]; omega)
      rwa [htl.out] at this
    rw [h1] at HS
    have hs1 := fun W => slice_to a bs.length cap (sizeN bs) hnc W
    by_cases h2 : opens (bs.take (sizeN bs)) = true
    · have he : Hid (getE bs = 0 ∧ getN bs = sizeN bs) := by
        have : getE bs = 0 := by unfold getE; rw [if_pos h1, if_pos h2]
        exact ⟨this, by unfold getN; rw [if_pos this]⟩
      have hx : Hid (opened (bs.take (sizeN bs)) = (bs.take (sizeN bs)).take (sizeN bs - 4)) := by unfold opened; rw [Hid, if_pos h2, htl.out]
      have hf : Hid (getF bs = (((bs.getD 1 0).toNat : Int), ((bs.take (sizeN bs)).take (sizeN bs - 4)).drop 4)) := by unfold getF; rw [Hid, if_pos he.out.1]
      rw [h2, hx.out] at ho
      have hlx : Hid (((bs.take (sizeN bs)).take (sizeN bs - 4)).length = sizeN bs - 4) := by rw [Hid, List.length_take, htl.out]; omega
      have hg1 : Hid ((((bs.take (sizeN bs)).take (sizeN bs - 4)).getD 1 0).toNat = (bs.getD 1 0).toNat) := by
        congr 1
        rw [ List.getD_eq_getElem?_getD, List.getD_eq_getElem?_getD, List.getElem?_take, if_pos (by omega), List.getElem?_take, if_pos (by omega)]
      rw [hlx.out] at ho
      generalize (bs.take (sizeN bs)).take (sizeN bs - 4) = X at ho hx hf hlx hg1
      generalize hm : sizeN bs - 4 = m at ho hlx
      have hm4 : 4 ≤ m := by omega
      have hmb : m ≤ 4100 := by omega
      clear hn hm h1 h2 htl hlb
      generalize sizeN bs = n at HS ho he hs1 hnc
      have hcl : Hid (∀ W g c A4, CellsB W (some ⟨g, 0, none⟩) X → m ≤ c → (if c = 4 then some (⟨g, 0, none⟩ : Addr) else some ⟨g, 4, none⟩) = A4 → Calls Try.prog 22 #[.slice A4 (m - 4) (c - 4)] W (RetRow 5 1 (X.drop 4).length ((X.drop 4).map byteV) W)) := fun W g c A4 h hc hA => by
        have hl4 : (X.drop 4).length = m - 4 := by rw [List.length_drop, hlx.out]
        have e : (if c = 4 then some (⟨g, 0, none⟩ : Addr) else some ⟨g, 4, none⟩) = cutA (some ⟨g, 0, none⟩) c 4 := by unfold cutA; rfl
        have := clone_any (cutA (some ⟨g, 0, none⟩) c 4) (c - 4) (X.drop 4) W (h.cut c 4 (by rw [hlx.out]; exact hc)) (by rw [hl4]; exact cutA_none (by simp)) (by rw [hl4]; omega)
        rw [← hA, e]
        rwa [hl4] at this ⊢
      generalize X.drop 4 = Y at hcl hf
      have hB := (bs.getD 1 0).toNat_lt
      generalize (bs.getD 1 0).toNat = B1 at hf hB hg1
      have hw : IntKind.i64.wrap (B1 : Int) = (B1 : Int) := by rw [IntKind.wrap_i64]; omega
      have HW := Lib.hid hw
      clear hw
      go_enter Try.func13, Try.ntmps13
      go_wp2_with (first
        | (go_at_call 20; refine (HS.out _ (RowAt.alloc hb _)).mono ?_; rintro e w1 ⟨rfl, hb1⟩)
        | (go_at_call 21; refine (ho.out _ (hb.below (alloc_below hb1))).mono ?_; rintro e w2 ⟨a2, cap2, rfl, hown2, hd2⟩; have hb2 := hb1.trans (hd2.mono hb1.size); obtain ⟨hc0, hc1, hf0, hf1, hlt⟩ := two_cells hb2))
      obtain ⟨g, cg, hv, hgb, hgl⟩ := hown2.form (by omega)
      cases hv
      have hcx := CellsB.pick (w := w2) (bs := X) (RowAt.of_own hown2) rfl (k := 1) (by rw [hlx.out]; omega)
      rw [hg1.out] at hcx
      have hlt2 := hlt
      have hgw : w.heap.size < g := by have := hb1.size; simp at this; omega
      have hmi : (4 : Int) ≤ (m : Int) := by omega
      have hmj : (1 : Int) < (m : Int) := by omega
      have hmc : m ≤ cap2 := own_le hown2
      have hw := HW.out
      have hbd : Below w2.heap.size w2 w2.drew := (Below.refl _ _).drew
      go_region_held3 (fun W => W.cell? ⟨g, 1, none⟩ = some (.int .u8 (B1 : Int))) (first | exact hcx | exact hcx3 | exact (hfar _ _).trans hcx3) ((go_at_call 22; generalize hA : (if cap2 = 4 then some (⟨g, 0, none⟩ : Addr) else some ⟨g, 4, none⟩) = A4; refine (hcl.out _ g cap2 A4 (by exact RowAt.of_own hown2) hmc hA).mono ?_; clear hA; rintro e w3 ⟨a3, cap3, rfl, hown3, hd3⟩; have hb3 := hb2.trans ((bt hbd hd3).mono hb2.size); obtain ⟨hc0, hc1, hf0, hf1, hlt⟩ := two_cells hb3; have hcx3 : w3.cell? ⟨g, 1, none⟩ = some (.int .u8 (B1 : Int)) := ((bt hbd hd3).cell (p := ⟨g, 1, none⟩) hgl).trans hcx; have hfar : ∀ u v, ((w3.setCell ⟨w.heap.size, 0, none⟩ u).setCell ⟨w.heap.size, 1, none⟩ v).cell? ⟨g, 1, none⟩ = w3.cell? ⟨g, 1, none⟩ := (fun u v => World.cell?_of_block ((Below.heap_setCell _ ⟨w.heap.size, 1, none⟩ v g (by show g ≠ w.heap.size; omega)).trans (Below.heap_setCell _ ⟨w.heap.size, 0, none⟩ u g (by show g ≠ w.heap.size; omega))))))
      clear hw
      go_wp2
      refine bodyPost_ret (v := .tuple #[.agg #[.int .i64 (B1 : Int), .slice a3 Y.length cap3], .int .i64 (n : Int), .int .i64 0]) (by simp [results, Try.results13, go_sem, hc0, hc1]) rfl ?_
      rw [he.out.1, he.out.2, hf.out]
      have hwl : w.heap.size < w2.drew.heap.size := hlt2
      exact ⟨a3, cap3, rfl, RowAt.of_own (ownsRow_setCell_below (ownsRow_setCell_below hown3 (a := ⟨w.heap.size, 0, none⟩) hwl _) (a := ⟨w.heap.size, 1, none⟩) hwl _), own_none hown3, ⟨own_le hown3, fun h0 b off ha => Nat.le_trans (Nat.le_of_lt hlt2) (own_from hown3 h0 b off ha)⟩, (((alloc_below hb3).setCell (p := ⟨w.heap.size, 0, none⟩) (Nat.le_refl _) _).setCell (p := ⟨w.heap.size, 1, none⟩) (Nat.le_refl _) _)⟩
    · have he : Hid (getE bs = 4 ∧ getN bs = 0 ∧ getF bs = (0, [])) := by
        have : getE bs = 4 := by unfold getE; rw [if_pos h1, if_neg h2]
        exact ⟨this, by unfold getN; rw [if_neg (by omega)], by unfold getF; rw [if_neg (by omega)]⟩
      have h2 : opens (bs.take (sizeN bs)) = false := by simpa using h2
      have hx : Hid (opened (bs.take (sizeN bs)) = []) := by unfold opened; rw [Hid, if_neg (by rw [h2]; decide)]
      rw [h2, hx.out] at ho
      clear h1 h2 htl hlb hn
      generalize sizeN bs = n at HS ho hs1 hnc
      go_enter Try.func13, Try.ntmps13
      go_wp2_with (first
        | (go_at_call 20; refine (HS.out _ (RowAt.alloc hb _)).mono ?_; rintro e w1 ⟨rfl, hb1⟩)
        | (go_at_call 21; refine (ho.out _ (hb.below (alloc_below hb1))).mono ?_; rintro e w2 ⟨a2, cap2, rfl, hown2, hd2⟩; have hb2 := hb1.trans (hd2.mono hb1.size); obtain ⟨hc0, hc1, hf0, hf1, hlt⟩ := two_cells hb2))
      go_wp2
      refine bodyPost_ret (v := .tuple #[.agg #[.int .i64 0, .slice none 0 0], .int .i64 0, .int .i64 4]) (by simp [results, Try.results13, go_sem, hc0, hc1]) rfl ?_
      rw [he.out.1, he.out.2.1, he.out.2.2]
      exact ⟨none, 0, rfl, RowAt.nil, fun _ => rfl, ⟨Nat.le_refl _, fun h => (h rfl).elim⟩, ((alloc_below hb2).setCell (p := ⟨w.heap.size, 0, none⟩) (Nat.le_refl _) _).setCell (p := ⟨w.heap.size, 1, none⟩) (Nat.le_refl _) _⟩
  · have he : Hid (getE bs = sizeE bs ∧ getN bs = 0 ∧ getF bs = (0, [])) := by
      have : getE bs = sizeE bs := by unfold getE; rw [if_neg h1]
      exact ⟨this, by unfold getN; rw [if_neg (by omega)], by unfold getF; rw [if_neg (by omega)]⟩
    have hn : Hid (sizeN bs = 0) := by unfold sizeN; rw [Hid, if_neg h1]
    have ht : (sizeE bs != 0) = true := by simpa using h1
    generalize sizeE bs = E at HS he ht
    clear h1
    go_enter Try.func13, Try.ntmps13
    go_wp2_with (go_at_call 20; refine (HS.out _ (RowAt.alloc hb _)).mono ?_; rintro e w1 ⟨rfl, hb1⟩; obtain ⟨hc0, hc1, hf0, hf1, hlt⟩ := two_cells hb1)
    go_wp2
    refine bodyPost_ret (v := .tuple #[.agg #[.int .i64 0, .slice none 0 0], .int .i64 0, .int .i64 E]) (by simp [results, Try.results13, go_sem, hc0, hc1]) rfl ?_
    rw [he.out.1, he.out.2.1, he.out.2.2]
    exact ⟨none, 0, rfl, RowAt.nil, fun _ => rfl, ⟨Nat.le_refl _, fun h => (h rfl).elim⟩, ((alloc_below hb1).setCell (p := ⟨w.heap.size, 0, none⟩) (Nat.le_refl _) _).setCell (p := ⟨w.heap.size, 1, none⟩) (Nat.le_refl _) _⟩
end Go.Proofs.Ytbonockefjenaaa
