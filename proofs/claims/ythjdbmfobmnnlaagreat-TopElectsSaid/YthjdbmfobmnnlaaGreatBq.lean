/-
  Bq: several texts in one.
-/
import Derived.Test.YthjdbmfobmnnlaaGreatBo
import Derived.Test.YthjdbmfobmnnlaaGreatBp
import Derived.Test.YthjdbmfobmnnlaaGreatBl
import Derived.Test.YthjdbmfobmnnlaaGreatBn
/-
  The contracts of layer 3's functions: what is got.
-/
namespace Go.Proofs.YthjdbmfobmnnlaaGreat
open Go.RowKit

/-- A frame, how many bytes it has, and an error. -/
def RetGet (f : Fr) (n : Nat) (err : Int) (w : World) (en : Ending) (w' : World) : Prop :=
  ∃ a cap, en = .returned (.tuple #[.agg #[.int .i64 f.1, .slice a f.2.length cap], .int .i64 n, .int .i64 err]) ∧ CellsB w' a f.2 ∧ (a = none → f.2.length = 0) ∧ (f.2.length ≤ cap ∧ (f.2.length ≠ 0 → ∀ b off, a = some ⟨b, off, none⟩ → w.heap.size ≤ b)) ∧ Below w.heap.size w w'
set_option maxHeartbeats 1600000 in
theorem get_any (a : Option Addr) (cap : Nat) (bs : List UInt8) (w : World) (hb : CellsB w a bs) (hcap : bs.length ≤ cap) (hl : bs.length ≤ 900000) :
    Calls Tryz.prog 184 #[.slice a bs.length cap] w (RetGet (getF bs) (getN bs) (getE bs) w) := by
  have hs : ∀ W, CellsB W a bs → Calls Tryz.prog 249 #[.slice a bs.length cap] W fun e w' => e = .returned (.tuple #[.int .i64 (sizeN bs), .int .i64 (sizeE bs)]) ∧ Below W.heap.size W w' := fun W h => size_any a cap bs W h hl
  have HS := Lib.hid hs
  clear hs
  by_cases h1 : sizeE bs = 0
  · have hn := sizeN_pos h1
    have hnc : sizeN bs ≤ cap := by omega
    have hlb : sizeN bs ≤ bs.length := hn.2.1
    have htl : Hid ((bs.take (sizeN bs)).length = sizeN bs) := by rw [Hid, List.length_take]; omega
    have ho : Hid (∀ W, CellsB W a bs → Calls Tryz.prog 250 #[.slice a (sizeN bs) cap] W (RetRowOk 5 1 (opened (bs.take (sizeN bs))).length ((opened (bs.take (sizeN bs))).map byteV) (opens (bs.take (sizeN bs))) W)) := fun W h => by
      have := open_any a cap (bs.take (sizeN bs)) W (h.take _) (by rw [htl.out]; exact hnc) (by rw [htl.out]; omega)
      rwa [htl.out] at this
    rw [h1] at HS
    have hs1 := fun W => slice_to a bs.length cap (sizeN bs) hnc W
    by_cases h2 : opens (bs.take (sizeN bs)) = true
    · have he : Hid (getE bs = 0 ∧ getN bs = sizeN bs) := by
        have : getE bs = 0 := by unfold getE; rw [if_pos h1, if_pos h2]
        exact ⟨this, by unfold getN; rw [if_pos this]⟩
      have hx : Hid (opened (bs.take (sizeN bs)) = (bs.take (sizeN bs)).take (sizeN bs - 4)) := by unfold opened; rw [Hid, if_pos h2, htl.out]
      have hf : Hid (getF bs = (((bs.getD 1 0).toNat : Int), ((bs.take (sizeN bs)).take (sizeN bs - 4)).drop 4)) := by unfold getF; rw [Hid, if_pos he.out.1]
      rw [h2, hx.out] at ho
      have hlx : Hid (((bs.take (sizeN bs)).take (sizeN bs - 4)).length = sizeN bs - 4) := by rw [Hid, List.length_take, htl.out]; omega
      have hg1 : Hid ((((bs.take (sizeN bs)).take (sizeN bs - 4)).getD 1 0).toNat = (bs.getD 1 0).toNat) := by
        congr 1
        rw [ List.getD_eq_getElem?_getD, List.getD_eq_getElem?_getD, List.getElem?_take, if_pos (by omega), List.getElem?_take, if_pos (by omega)]
      rw [hlx.out] at ho
      generalize (bs.take (sizeN bs)).take (sizeN bs - 4) = X at ho hx hf hlx hg1
      generalize hm : sizeN bs - 4 = m at ho hlx
      have hm4 : 4 ≤ m := by omega
      have hmb : m ≤ 4100 := by omega
      clear hn hm h1 h2 htl hlb
      generalize sizeN bs = n at HS ho he hs1 hnc
      have hcl : Hid (∀ W g c A4, CellsB W (some ⟨g, 0, none⟩) X → m ≤ c → (if c = 4 then some (⟨g, 0, none⟩ : Addr) else some ⟨g, 4, none⟩) = A4 → Calls Tryz.prog 110 #[.slice A4 (m - 4) (c - 4)] W (RetRow 5 1 (X.drop 4).length ((X.drop 4).map byteV) W)) := fun W g c A4 h hc hA => by
        have hl4 : (X.drop 4).length = m - 4 := by rw [List.length_drop, hlx.out]
        have e : (if c = 4 then some (⟨g, 0, none⟩ : Addr) else some ⟨g, 4, none⟩) = cutA (some ⟨g, 0, none⟩) c 4 := by unfold cutA; rfl
        have := cloneC_any (cutA (some ⟨g, 0, none⟩) c 4) (c - 4) (X.drop 4) W (h.cut c 4 (by rw [hlx.out]; exact hc)) (by rw [hl4]; exact cutA_none (by simp)) (by rw [hl4]; omega)
        rw [← hA, e]
        rwa [hl4] at this ⊢
      generalize X.drop 4 = Y at hcl hf
      have hB := (bs.getD 1 0).toNat_lt
      generalize (bs.getD 1 0).toNat = B1 at hf hB hg1
      have hw : IntKind.i64.wrap (B1 : Int) = (B1 : Int) := by rw [IntKind.wrap_i64]; omega
      have HW := Lib.hid hw
      clear hw
      go_enter Tryz.func184, Tryz.ntmps184
      go_wp2_with (first
        | (go_at_call 249; refine (HS.out _ (RowAt.alloc hb _)).mono ?_; rintro e w1 ⟨rfl, hb1⟩)
        | (go_at_call 250; refine (ho.out _ (hb.below (alloc_below hb1))).mono ?_; rintro e w2 ⟨a2, cap2, rfl, hown2, hd2⟩; have hb2 := hb1.trans (hd2.mono hb1.size); obtain ⟨hc0, hc1, hf0, hf1, hlt⟩ := two_cells hb2))
      obtain ⟨g, cg, hv, hgb, hgl⟩ := hown2.form (by omega)
      cases hv
      have hcx := CellsB.pick (w := w2) (bs := X) (RowAt.of_own hown2) rfl (k := 1) (by rw [hlx.out]; omega)
      rw [hg1.out] at hcx
      have hlt2 := hlt
      have hgw : w.heap.size < g := by have := hb1.size; simp at this; omega
      have hmi : (4 : Int) ≤ (m : Int) := by omega
      have hmj : (1 : Int) < (m : Int) := by omega
      have hmc : m ≤ cap2 := own_le hown2
      have hw := HW.out
      have hbd : Below w2.heap.size w2 w2.drew := (Below.refl _ _).drew
      go_region_held3 (fun W => W.cell? ⟨g, 1, none⟩ = some (.int .u8 (B1 : Int))) (first | exact hcx | exact hcx3 | exact (hfar _ _).trans hcx3) ((go_at_call 110; generalize hA : (if cap2 = 4 then some (⟨g, 0, none⟩ : Addr) else some ⟨g, 4, none⟩) = A4; refine (hcl.out _ g cap2 A4 (by exact RowAt.of_own hown2) hmc hA).mono ?_; clear hA; rintro e w3 ⟨a3, cap3, rfl, hown3, hd3⟩; have hb3 := hb2.trans ((bt hbd hd3).mono hb2.size); obtain ⟨hc0, hc1, hf0, hf1, hlt⟩ := two_cells hb3; have hcx3 : w3.cell? ⟨g, 1, none⟩ = some (.int .u8 (B1 : Int)) := ((bt hbd hd3).cell (p := ⟨g, 1, none⟩) hgl).trans hcx; have hfar : ∀ u v, ((w3.setCell ⟨w.heap.size, 0, none⟩ u).setCell ⟨w.heap.size, 1, none⟩ v).cell? ⟨g, 1, none⟩ = w3.cell? ⟨g, 1, none⟩ := (fun u v => World.cell?_of_block ((Below.heap_setCell _ ⟨w.heap.size, 1, none⟩ v g (by show g ≠ w.heap.size; omega)).trans (Below.heap_setCell _ ⟨w.heap.size, 0, none⟩ u g (by show g ≠ w.heap.size; omega))))))
      clear hw
      go_wp2
      refine bodyPost_ret (v := .tuple #[.agg #[.int .i64 (B1 : Int), .slice a3 Y.length cap3], .int .i64 (n : Int), .int .i64 0]) (by simp [results, Tryz.results184, go_sem, hc0, hc1]) rfl ?_
      rw [he.out.1, he.out.2, hf.out]
      have hwl : w.heap.size < w2.drew.heap.size := hlt2
      exact ⟨a3, cap3, rfl, RowAt.of_own (ownsRow_setCell_below (ownsRow_setCell_below hown3 (a := ⟨w.heap.size, 0, none⟩) hwl _) (a := ⟨w.heap.size, 1, none⟩) hwl _), own_none hown3, ⟨own_le hown3, fun h0 b off ha => Nat.le_trans (Nat.le_of_lt hlt2) (own_from hown3 h0 b off ha)⟩, (((alloc_below hb3).setCell (p := ⟨w.heap.size, 0, none⟩) (Nat.le_refl _) _).setCell (p := ⟨w.heap.size, 1, none⟩) (Nat.le_refl _) _)⟩
    · have he : Hid (getE bs = 4 ∧ getN bs = 0 ∧ getF bs = (0, [])) := by
        have : getE bs = 4 := by unfold getE; rw [if_pos h1, if_neg h2]
        exact ⟨this, by unfold getN; rw [if_neg (by omega)], by unfold getF; rw [if_neg (by omega)]⟩
      have h2 : opens (bs.take (sizeN bs)) = false := by simpa using h2
      have hx : Hid (opened (bs.take (sizeN bs)) = []) := by unfold opened; rw [Hid, if_neg (by rw [h2]; decide)]
      rw [h2, hx.out] at ho
      clear h1 h2 htl hlb hn
      generalize sizeN bs = n at HS ho hs1 hnc
      go_enter Tryz.func184, Tryz.ntmps184
      go_wp2_with (first
        | (go_at_call 249; refine (HS.out _ (RowAt.alloc hb _)).mono ?_; rintro e w1 ⟨rfl, hb1⟩)
        | (go_at_call 250; refine (ho.out _ (hb.below (alloc_below hb1))).mono ?_; rintro e w2 ⟨a2, cap2, rfl, hown2, hd2⟩; have hb2 := hb1.trans (hd2.mono hb1.size); obtain ⟨hc0, hc1, hf0, hf1, hlt⟩ := two_cells hb2))
      go_wp2
      refine bodyPost_ret (v := .tuple #[.agg #[.int .i64 0, .slice none 0 0], .int .i64 0, .int .i64 4]) (by simp [results, Tryz.results184, go_sem, hc0, hc1]) rfl ?_
      rw [he.out.1, he.out.2.1, he.out.2.2]
      exact ⟨none, 0, rfl, RowAt.nil, fun _ => rfl, ⟨Nat.le_refl _, fun h => (h rfl).elim⟩, ((alloc_below hb2).setCell (p := ⟨w.heap.size, 0, none⟩) (Nat.le_refl _) _).setCell (p := ⟨w.heap.size, 1, none⟩) (Nat.le_refl _) _⟩
  · have he : Hid (getE bs = sizeE bs ∧ getN bs = 0 ∧ getF bs = (0, [])) := by
      have : getE bs = sizeE bs := by unfold getE; rw [if_neg h1]
      exact ⟨this, by unfold getN; rw [if_neg (by omega)], by unfold getF; rw [if_neg (by omega)]⟩
    have hn : Hid (sizeN bs = 0) := by unfold sizeN; rw [Hid, if_neg h1]
    have ht : (sizeE bs != 0) = true := by simpa using h1
    generalize sizeE bs = E at HS he ht
    clear h1
    go_enter Tryz.func184, Tryz.ntmps184
    go_wp2_with (go_at_call 249; refine (HS.out _ (RowAt.alloc hb _)).mono ?_; rintro e w1 ⟨rfl, hb1⟩; obtain ⟨hc0, hc1, hf0, hf1, hlt⟩ := two_cells hb1)
    go_wp2
    refine bodyPost_ret (v := .tuple #[.agg #[.int .i64 0, .slice none 0 0], .int .i64 0, .int .i64 E]) (by simp [results, Tryz.results184, go_sem, hc0, hc1]) rfl ?_
    rw [he.out.1, he.out.2.1, he.out.2.2]
    exact ⟨none, 0, rfl, RowAt.nil, fun _ => rfl, ⟨Nat.le_refl _, fun h => (h rfl).elim⟩, ((alloc_below hb1).setCell (p := ⟨w.heap.size, 0, none⟩) (Nat.le_refl _) _).setCell (p := ⟨w.heap.size, 1, none⟩) (Nat.le_refl _) _⟩
end Go.Proofs.YthjdbmfobmnnlaaGreat

/-
  The contracts of layer 3's functions: what the document gets.
-/
namespace Go.Proofs.YthjdbmfobmnnlaaGreat
open Go.RowKit

theorem get_err {bs : List UInt8} {E : Int} (h : sizeE bs = E) (h0 : E ≠ 0) : getE bs = E ∧ getN bs = 0 ∧ getF bs = (0, []) := by
  have : getE bs = E := by unfold getE; rw [if_neg (by omega), h]
  exact ⟨this, by unfold getN; rw [if_neg (by omega)], by unfold getF; rw [if_neg (by omega)]⟩
theorem get_bad {bs : List UInt8} (h : sizeE bs = 0) (ho : opens (bs.take (sizeN bs)) = false) : getE bs = 4 ∧ getN bs = 0 ∧ getF bs = (0, []) := by
  have : getE bs = 4 := by unfold getE; rw [if_pos h, if_neg (by rw [ho]; decide)]
  exact ⟨this, by unfold getN; rw [if_neg (by omega)], by unfold getF; rw [if_neg (by omega)]⟩
theorem get_good {bs : List UInt8} (h : sizeE bs = 0) (ho : opens (bs.take (sizeN bs)) = true) : getE bs = 0 ∧ getN bs = sizeN bs ∧ getF bs = (((bs.getD 1 0).toNat : Int), (opened (bs.take (sizeN bs))).drop 4) := by
  have hn := sizeN_pos h
  have : getE bs = 0 := by unfold getE; rw [if_pos h, if_pos ho]
  have hl : (bs.take (sizeN bs)).length = sizeN bs := by rw [List.length_take]; omega
  exact ⟨this, by unfold getN; rw [if_pos this], by unfold getF opened; rw [if_pos this, if_pos ho, hl]⟩
/-- Two blocks of two cells that were made ahead of what followed. -/
theorem two_blocks {w w1 : World} {x y u v : Value} {t : TypeId} (hb : Below ((w.alloc (.cells #[x, y] t)).alloc (.cells #[u, v] t)).heap.size ((w.alloc (.cells #[x, y] t)).alloc (.cells #[u, v] t)) w1) :
    w1.cell? ⟨w.heap.size, 0, none⟩ = some x ∧ w1.cell? ⟨w.heap.size, 1, none⟩ = some y ∧ w1.cell? ⟨w.heap.size + 1, 0, none⟩ = some u ∧ w1.cell? ⟨w.heap.size + 1, 1, none⟩ = some v ∧
    w1.frozen? ⟨w.heap.size, 0, none⟩ = false ∧ w1.frozen? ⟨w.heap.size, 1, none⟩ = false ∧ w.heap.size + 1 < w1.heap.size ∧ Below w.heap.size w w1 := by
  have hs : (w.alloc (.cells #[x, y] t)).heap.size = w.heap.size + 1 := by simp
  have h1 := two_cells hb
  rw [hs] at h1
  have h2 : Below (w.alloc (.cells #[x, y] t)).heap.size (w.alloc (.cells #[x, y] t)) w1 := alloc_below hb
  have h3 := two_cells h2
  exact ⟨h3.1, h3.2.1, h1.1, h1.2.1, h3.2.2.1, h3.2.2.2.1, h1.2.2.2.2, alloc_below h2⟩
end Go.Proofs.YthjdbmfobmnnlaaGreat

/-
  The walk of what records keep.
-/
namespace Go.Proofs.YthjdbmfobmnnlaaGreat
open Go.RowKit
set_option linter.unusedVariables false
/-- What records keep, and how many bytes of them. -/
def RetRead (r : St × Nat) (w : World) (en : Ending) (w' : World) : Prop := ∃ A c, en = .returned (.tuple #[.agg #[.int .i64 r.1.1, .int .i64 r.1.2.1, .slice A r.1.2.2.length c], .int .i64 r.2]) ∧ w'.ownsRow w.heap.size 82 7 (.slice A r.1.2.2.length c) r.1.2.2.length (ensV r.1.2.2) ∧ Below w.heap.size w w'
/-- So far: read and left. -/
def SoFar (bs : List UInt8) (k : Nat) (s : St) : Prop := readV bs = ((readS (bs.drop k) s).1, k + (readS (bs.drop k) s).2)
theorem SoFar.start (bs : List UInt8) : SoFar bs 0 st0 := by unfold SoFar readV; simp
theorem SoFar.stop {bs : List UInt8} {k : Nat} {s : St} (h : SoFar bs k s) (h1 : readS (bs.drop k) s = (s, 0)) : readV bs = (s, k) := by rw [h, h1]; rfl
theorem SoFar.next {bs : List UInt8} {k : Nat} {s s' : St} (h : SoFar bs k s) (he : getE (bs.drop k) = 0) (hs : stepV s (getF (bs.drop k)) = some s') : SoFar bs (k + getN (bs.drop k)) s' := by
  unfold SoFar at h ⊢
  rw [h, readS_some he hs, List.drop_drop]
  simp only [Nat.add_assoc]
theorem blk_keep1 {w w' : World} {o : Obj} {n : Nat} (h : Below (n + 1) w w') (g : w.heap[n]? = some o) : w'.heap[n]? = some o := by rw [h.block n (Nat.lt_succ_self n)]; exact g
set_option maxRecDepth 100000 in
set_option maxHeartbeats 12800000 in
theorem read_any (a : Option Addr) (cap : Nat) (bs : List UInt8) (w : World) (hb : CellsB w a bs) (hcap : bs.length ≤ cap) (hl : bs.length ≤ 900000) :
    Calls Tryz.prog 125 #[.slice a bs.length cap] w (RetRead (readV bs) w) := by
  have HB := Lib.hid hb
  go_enter Tryz.func125, Tryz.ntmps125
  go_wp2
  refine scope_fwd 0 rfl ?_
  go_wp2
  go_step3
  refine (by assumption : ∀ (a : Act) (w : World), _ → _) _ _ ?_
  go_wp2
  go_loopw [5] (fun i wr => ∃ (k : Nat) (t v : Int) (es : List En) (A : Option Addr) (c : Nat), k ≤ bs.length ∧ i = .int .i64 k ∧ Hid (StOk (t, v, es)) ∧ Hid (SoFar bs k (t, v, es)) ∧ wr.heap[w.heap.size + 1]? = some (.cells #[.int .i64 t, .int .i64 v, .slice A es.length c] 116) ∧ wr.ownsRow (w.heap.size + 2) 82 7 (.slice A es.length c) es.length (ensV es) ∧ wr.heap[w.heap.size]? = some (.cells #[.int .i64 0, .int .i64 0, .slice none 0 0] 116) ∧ Below w.heap.size w wr) (fun i _ => bs.length - (intOf i).toNat)
  case atStart => exact ⟨0, 0, 0, [], none, 0, by omega, rfl, st0_ok, SoFar.start bs, alloc2_snd w _ _, World.ownsRow_nil _ _ _ _, alloc2_fst w _ _, below2 w _ _⟩
  case round =>
    obtain ⟨k, t, v, es, A, c, hk, rfl, HOK, HSF, g1, own1, g0, hbw⟩ := hrel
    obtain ⟨sc0, sc1, sc2, sf0, sf1, sf2, slt⟩ := box3 g1
    obtain ⟨zc0, zc1, zc2, zf0, zf1, zf2, zlt⟩ := box3 g0
    have slt0 := slt
    by_cases hlt : k < bs.length
    · have hs2 := fun W => slice_from a bs.length cap k hk W
      have hk0 : (0 : Int) ≤ (k : Int) := by omega
      have hk1 : (k : Int) < (bs.length : Int) := by omega
      have HG : Hid (∀ W, CellsB W a bs → Calls Tryz.prog 184 #[.slice (cutA a cap k) (bs.length - k) (cap - k)] W (RetGet (getF (bs.drop k)) (getN (bs.drop k)) (getE (bs.drop k)) W)) := fun W h => by
        have hl2 : (bs.drop k).length = bs.length - k := List.length_drop
        have := get_any (cutA a cap k) (cap - k) (bs.drop k) W (h.cut cap k hcap) (by rw [hl2]; omega) (by rw [hl2]; omega)
        rwa [hl2] at this
      by_cases he : getE (bs.drop k) = 0
      · have hn := getN_pos he
        have hnl : k + getN (bs.drop k) ≤ bs.length := by have h2 : (bs.drop k).length = bs.length - k := List.length_drop; omega
        have hfl : (getF (bs.drop k)).2.length ≤ 1000000 := by have := (putE_zero (get_put he).1).2; omega
        have HST : Hid (∀ W a4 c4, CellsB W a4 (getF (bs.drop k)).2 → (getF (bs.drop k)).2.length ≤ c4 → (a4 = none → (getF (bs.drop k)).2.length = 0) → StAt W (w.heap.size + 1) (w.heap.size + 2) (t, v, es) → w.heap.size + 2 ≤ W.heap.size → Calls Tryz.prog 185 #[.pointer (some ⟨w.heap.size + 1, 0, none⟩), .agg #[.int .i64 (getF (bs.drop k)).1, .slice a4 (getF (bs.drop k)).2.length c4]] W (RetStep (w.heap.size + 1) (w.heap.size + 2) (w.heap.size + 1) (t, v, es) (stepV (t, v, es) (getF (bs.drop k))) W)) := fun W a4 c4 h1 h2 h3 h4 h5 => vstep_any _ _ _ _ _ _ _ _ W h4 (by omega) (by omega) h5 HOK.out h1 h2 h3 hfl
        cases hst : stepV (t, v, es) (getF (bs.drop k)) with
        | none =>
          have HEND := Lib.hid (HSF.out.stop (readS_none he hst))
          rw [hst] at HST
          rw [he] at HG
          clear he hst hn
          generalize getN (bs.drop k) = n at HG hnl
          generalize getF (bs.drop k) = f at HG HST
          obtain ⟨K, D⟩ := f
          simp only at HST
          go_wp2_with (first
            | (go_at_call 184; refine (HG.out _ (HB.out.below hbw)).mono ?_; rintro e w4 ⟨a4, c4, rfl, hcells, hnone, ⟨hle, hfar⟩, hd4⟩; have hv4 := below1 w4 (.cells #[.int .i64 K, .slice a4 D.length c4] 262); have hd4' := hd4.trans (hv4.mono hd4.size); have g1b := blk_keep hd4' g1; have own1b := own_below own1 hd4'; have g0b := blk_keep hd4' g0; have hb4 := hbw.trans (hd4'.mono hbw.size); have hb4s := Nat.le_trans (Nat.succ_le_of_lt slt0) hd4'.size; have hcells4 := hcells.below hv4; obtain ⟨fc0, fc1, ff0, ff1, flt⟩ := box2 (blk_new w4 (.cells #[.int .i64 K, .slice a4 D.length c4] 262)); obtain ⟨sc0, sc1, sc2, sf0, sf1, sf2, slt⟩ := box3 g1b; obtain ⟨zc0, zc1, zc2, zf0, zf1, zf2, zlt⟩ := box3 g0b)
            | (go_at_call 185; refine (HST.out _ a4 c4 hcells4 hle hnone ⟨A, c, g1b, own1b⟩ hb4s).mono ?_; rintro e w5 ⟨rfl, ⟨A5, c5, g15, own5⟩, hd5⟩; simp only [Option.getD_none] at g15 own5; have g05 := blk_keep1 hd5 g0b; have hb5 := hb4.trans (hd5.mono (Nat.le_succ _)); obtain ⟨sc0, sc1, sc2, sf0, sf1, sf2, slt⟩ := box3 g15; obtain ⟨zc0, zc1, zc2, zf0, zf1, zf2, zlt⟩ := box3 g05))
          simp only [Exit.jump]
          obtain ⟨q0, q1, q2, _⟩ := box3 (set3_blk g05 (.int .i64 t) (.int .i64 v) (.slice A5 es.length c5))
          refine bodyPost_ret (v := .tuple #[.agg #[.int .i64 t, .int .i64 v, .slice A5 es.length c5], .int .i64 k]) (by simp [results, Tryz.results125, go_sem, q0, q1, q2]) rfl ?_
          rw [HEND.out]
          exact ⟨A5, c5, rfl, own_base (own_set3 own5 (by omega) (.int .i64 t) (.int .i64 v) (.slice A5 es.length c5)) (by omega), set3_below hb5 (Nat.le_refl _) _ _ _⟩
        | some s' =>
          obtain ⟨t', v', es'⟩ := s'
          have HOK2 := Lib.hid (stepV_ok HOK.out hst)
          have HSF2 := Lib.hid (HSF.out.next he hst)
          rw [hst] at HST
          rw [he] at HG
          have hn0 : 0 < getN (bs.drop k) := by omega
          clear he hst hn
          generalize getN (bs.drop k) = n at HG hnl HSF2 hn0
          generalize getF (bs.drop k) = f at HG HST
          obtain ⟨K, D⟩ := f
          simp only at HST
          have hwr := wrap_id (x := (k : Int) + (n : Int)) (by omega) (by omega)
          go_wp2_with (first
            | (go_at_call 184; refine (HG.out _ (HB.out.below hbw)).mono ?_; rintro e w4 ⟨a4, c4, rfl, hcells, hnone, ⟨hle, hfar⟩, hd4⟩; have hv4 := below1 w4 (.cells #[.int .i64 K, .slice a4 D.length c4] 262); have hd4' := hd4.trans (hv4.mono hd4.size); have g1b := blk_keep hd4' g1; have own1b := own_below own1 hd4'; have g0b := blk_keep hd4' g0; have hb4 := hbw.trans (hd4'.mono hbw.size); have hb4s := Nat.le_trans (Nat.succ_le_of_lt slt0) hd4'.size; have hcells4 := hcells.below hv4; obtain ⟨fc0, fc1, ff0, ff1, flt⟩ := box2 (blk_new w4 (.cells #[.int .i64 K, .slice a4 D.length c4] 262)); obtain ⟨sc0, sc1, sc2, sf0, sf1, sf2, slt⟩ := box3 g1b; obtain ⟨zc0, zc1, zc2, zf0, zf1, zf2, zlt⟩ := box3 g0b)
            | (go_at_call 185; refine (HST.out _ a4 c4 hcells4 hle hnone ⟨A, c, g1b, own1b⟩ hb4s).mono ?_; rintro e w5 ⟨rfl, ⟨A5, c5, g15, own5⟩, hd5⟩; simp only [Option.getD_some] at g15 own5; have g05 := blk_keep1 hd5 g0b; have hb5 := hb4.trans (hd5.mono (Nat.le_succ _)); obtain ⟨sc0, sc1, sc2, sf0, sf1, sf2, slt⟩ := box3 g15; obtain ⟨zc0, zc1, zc2, zf0, zf1, zf2, zlt⟩ := box3 g05))
          exact ⟨⟨k + n, t', v', es', A5, c5, hnl, by simp, HOK2, HSF2, g15, own5, g05, hb5⟩, by simp [intOf]; omega⟩
      · have hne : (getE (bs.drop k) != 0) = true := by simpa using he
        have HEND := Lib.hid (HSF.out.stop (readS_err he))
        clear he
        generalize getE (bs.drop k) = E at HG hne
        generalize getN (bs.drop k) = n at HG
        generalize getF (bs.drop k) = f at HG
        obtain ⟨K, D⟩ := f
        go_wp2_with (go_at_call 184; refine (HG.out _ (HB.out.below hbw)).mono ?_; rintro e w4 ⟨a4, c4, rfl, hcells, hnone, ⟨hle, hfar⟩, hd4⟩; have hv4 := below1 w4 (.cells #[.int .i64 K, .slice a4 D.length c4] 262); have hd4' := hd4.trans (hv4.mono hd4.size); have g1b := blk_keep hd4' g1; have own1b := own_below own1 hd4'; have g0b := blk_keep hd4' g0; have hb4 := hbw.trans (hd4'.mono hbw.size); have hcells4 := hcells.below hv4; obtain ⟨fc0, fc1, ff0, ff1, flt⟩ := box2 (blk_new w4 (.cells #[.int .i64 K, .slice a4 D.length c4] 262)); obtain ⟨sc0, sc1, sc2, sf0, sf1, sf2, slt⟩ := box3 g1b; obtain ⟨zc0, zc1, zc2, zf0, zf1, zf2, zlt⟩ := box3 g0b)
        simp only [Exit.jump]
        obtain ⟨q0, q1, q2, _⟩ := box3 (set3_blk g0b (.int .i64 t) (.int .i64 v) (.slice A es.length c))
        refine bodyPost_ret (v := .tuple #[.agg #[.int .i64 t, .int .i64 v, .slice A es.length c], .int .i64 k]) (by simp [results, Tryz.results125, go_sem, q0, q1, q2]) rfl ?_
        rw [HEND.out]
        exact ⟨A, c, rfl, own_base (own_set3 own1b (by omega) (.int .i64 t) (.int .i64 v) (.slice A es.length c)) (by omega), set3_below hb4 (Nat.le_refl _) _ _ _⟩
    · have hkb : k = bs.length := by omega
      have HEND := Lib.hid (HSF.out.stop (by rw [List.drop_of_length_le (by omega)]; exact readS_nil))
      have hk1 : (bs.length : Int) ≤ (k : Int) := by omega
      go_wp2
      simp only [Exit.jump]
      obtain ⟨q0, q1, q2, _⟩ := box3 (set3_blk g0 (.int .i64 t) (.int .i64 v) (.slice A es.length c))
      refine bodyPost_ret (v := .tuple #[.agg #[.int .i64 t, .int .i64 v, .slice A es.length c], .int .i64 k]) (by simp [results, Tryz.results125, go_sem, q0, q1, q2]) rfl ?_
      rw [HEND.out]
      exact ⟨A, c, rfl, own_base (own_set3 own1 (by omega) (.int .i64 t) (.int .i64 v) (.slice A es.length c)) (by omega), set3_below hbw (Nat.le_refl _) _ _ _⟩
end Go.Proofs.YthjdbmfobmnnlaaGreat

/-
  Crash.
-/
namespace Go.Proofs.YthjdbmfobmnnlaaGreat
open Go.RowKit
set_option linter.unusedVariables false
set_option maxRecDepth 100000 in
set_option maxHeartbeats 6400000 in
theorem crash_any {P : Nat → Prop} (V base : Nat) (x : Vt) (keep : Int) (w : World) (hP : ∀ y, w.heap.size ≤ y → P y) (h : VtAt w V base P x) (hV : V < base) (hb : base ≤ w.heap.size) (hx : VtOk x) (hl : x.1.length ≤ 900000) : Calls Tryz.prog 78 #[.pointer (some ⟨V, 0, none⟩), .int .i64 keep] w fun e w' => e = .returned (.tuple #[]) ∧ VtAt w' V base P (crashV x keep) ∧ Only V w w' := by
  have hcn := crashN_le hx.sync keep
  obtain ⟨D, cd, A, c, g, o1, o2, oP⟩ := h
  obtain ⟨bs, n, t, v, es⟩ := x
  have hsy := hx.sync
  simp only at g o1 o2 hl hcn hsy
  have hcd := own_le' o1
  unfold crashV
  simp only
  have hm : crashN (bs, n, t, v, es) keep = n + (max keep 0 % ((bs.length : Int) - (n : Int) + 1)).toNat := rfl
  generalize crashN (bs, n, t, v, es) keep = m at hm hcn ⊢
  have hmi : ((n : Int) + max keep 0 % ((bs.length : Int) - (n : Int) + 1)) = (m : Int) := by
    have : 0 ≤ max keep 0 % ((bs.length : Int) - (n : Int) + 1) := Int.emod_nonneg _ (by omega)
    omega
  have hml : (bs.take m).length = m := by rw [List.length_take]; omega
  have HR : Hid (∀ W, Below w.heap.size w W → Calls Tryz.prog 125 #[.slice D m cd] W (RetRead (readV (bs.take m)) W)) := fun W hW => by
    have := read_any D cd (bs.take m) W (((show CellsB w D bs from RowAt.of_own o1).take m).below hW) (by omega) (by omega)
    rwa [hml] at this
  have hr2 := readV_le (bs.take m)
  rw [hml] at hr2
  have htt : (bs.take m).take (readV (bs.take m)).2 = bs.take (readV (bs.take m)).2 := by rw [List.take_take, Nat.min_eq_left hr2]
  generalize readV (bs.take m) = r at HR hr2 htt ⊢
  obtain ⟨⟨t', v', es'⟩, k⟩ := r
  simp only at hr2 ⊢
  have hkl : (bs.take k).length = k := by rw [List.length_take]; omega
  have HKL := Lib.hid hkl
  have HC : Hid (∀ W, W.ownsRow base 5 1 (.slice D bs.length cd) bs.length (bs.map byteV) → Calls Tryz.prog 110 #[.slice D k cd] W (RetRow 5 1 k ((bs.take k).map byteV) W)) := fun W hW => by
    have := cloneC_any D cd (bs.take k) W ((show CellsB W D bs from RowAt.of_own hW).take k) (fun h0 => by have := own_none hW h0; omega) (by omega)
    rwa [hkl] at this
  have HSY : Hid (∀ W y, VtAt W V base P y → Calls Tryz.prog 61 #[.pointer (some ⟨V, 0, none⟩)] W fun e w' => e = .returned (.tuple #[]) ∧ VtAt w' V base P (syncV y) ∧ Only V W w') := fun W y h => sync_any V base y W h hV
  obtain ⟨c0, c1, c2, c3, c4, f0, f1, f2, f3, f4, hlt⟩ := box5 g
  clear hm hml htt hkl hx
  go_enter Tryz.func78, Tryz.ntmps78
  go_wp2
  go_quiet (fail)
  go_wp2_with (first
    | (go_at_call 125; refine (HR.out _ (Below.many (below0 w) _)).mono ?_; rintro e w1 ⟨A1, c1, rfl, ownA, hb1⟩; simp only at ownA; have hw1 := (Below.many (below0 w) nq).trans hb1; have g1 := blk_keep hw1 g; have o1b := own_below o1 hw1; have ownA' := own_base (base' := base) ownA hb; have gS : (((w1.setCell ⟨V, 2, none⟩ (.int .i64 t')).setCell ⟨V, 3, none⟩ (.int .i64 v')).setCell ⟨V, 4, none⟩ (.slice A1 es'.length c1)).heap[V]? = some (.cells #[.slice D bs.length cd, .int .i64 (n : Nat), .int .i64 t', .int .i64 v', .slice A1 es'.length c1] 118) := blk_set (i := 4) (blk_set (i := 3) (blk_set (i := 2) g1 (.int .i64 t')) (.int .i64 v')) (.slice A1 es'.length c1); have oS : (((w1.setCell ⟨V, 2, none⟩ (.int .i64 t')).setCell ⟨V, 3, none⟩ (.int .i64 v')).setCell ⟨V, 4, none⟩ (.slice A1 es'.length c1)).ownsRow base 5 1 (.slice D bs.length cd) bs.length (bs.map byteV) := ownsRow_setCell_below (ownsRow_setCell_below (ownsRow_setCell_below o1b (a := ⟨V, 2, none⟩) hV _) (a := ⟨V, 3, none⟩) hV _) (a := ⟨V, 4, none⟩) hV _; have oA : (((w1.setCell ⟨V, 2, none⟩ (.int .i64 t')).setCell ⟨V, 3, none⟩ (.int .i64 v')).setCell ⟨V, 4, none⟩ (.slice A1 es'.length c1)).ownsRow base 82 7 (.slice A1 es'.length c1) es'.length (ensV es') := ownsRow_setCell_below (ownsRow_setCell_below (ownsRow_setCell_below ownA' (a := ⟨V, 2, none⟩) hV _) (a := ⟨V, 3, none⟩) hV _) (a := ⟨V, 4, none⟩) hV _; have hO : Only V w (((w1.setCell ⟨V, 2, none⟩ (.int .i64 t')).setCell ⟨V, 3, none⟩ (.int .i64 v')).setCell ⟨V, 4, none⟩ (.slice A1 es'.length c1)) := (((Only.of_below hw1).setCell 2 _).setCell 3 _).setCell 4 _; obtain ⟨d0, d1, d2, d3, d4, e0, e1, e2, e3, e4, dlt⟩ := box5 g1)
    | (go_at_call 110; refine (HC.out _ oS).mono ?_; rintro e w2 ⟨D2, cap2, rfl, own2, hb2⟩; have g2 := blk_keep hb2 gS; have oA2 := own_below oA hb2; have hO2 := hO.trans (Only.of_below hb2); have own2' := own_base (base' := base) own2 (Nat.le_trans hb hO.size); have oP2 : (∀ y ∈ blkOf D2, P y) := (fun y hy => hP y (Nat.le_trans hO.size (own_blk own2 y hy).1)); have oPA : (∀ y ∈ blkOf A1, P y) := (fun y hy => hP y (own_blk ownA y hy).1); obtain ⟨d0, d1, d2, d3, d4, e0, e1, e2, e3, e4, dlt⟩ := box5 g2)
    | (go_at_call 61; refine (HSY.out _ (bs.take k, n, t', v', es') ?hat).mono ?_; rotate_left 1; rintro e w4 ⟨rfl, hv4, hO4⟩))
  · have hs : syncV (bs.take k, n, t', v', es') = (bs.take k, k, t', v', es') := by unfold syncV; simp only [HKL.out]
    rw [hs] at hv4
    refine bodyPost_end (results_none rfl _ _ _) rfl ?_
    exact ⟨rfl, hv4, (hO2.setCell 0 _).trans hO4⟩
  · refine ⟨D2, cap2, A1, c1, ?_, ?_, ?_, fun y hy => (List.mem_append.1 hy).elim (oP2 y) (oPA y)⟩
    · simp only [HKL.out]
      exact blk_set (i := 0) g2 (.slice D2 k cap2)
    · simp only [HKL.out]
      exact ownsRow_setCell_below own2' (a := ⟨V, 0, none⟩) hV _
    · exact ownsRow_setCell_below oA2 (a := ⟨V, 0, none⟩) hV _
end Go.Proofs.YthjdbmfobmnnlaaGreat
