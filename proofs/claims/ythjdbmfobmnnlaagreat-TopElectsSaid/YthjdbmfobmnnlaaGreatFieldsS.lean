/-
  Layer 2: the first numbers and bytes of some.
-/
import Derived.Test.YthjdbmfobmnnlaaGreatBm
import Derived.Deep.RegionLaw
namespace Go.Proofs.YthjdbmfobmnnlaaGreat
open Go.RowKit
set_option linter.unusedVariables false
set_option maxHeartbeats 400000 in
theorem cloneB_any (a : Option Addr) (cap : Nat) (bs : List UInt8) (w : World) (hb : CellsB w a bs) (hz : a = none → bs.length = 0) (hl : bs.length ≤ 1000000) :
    Calls Tryz.prog 110 #[.slice a bs.length cap] w (RetRow 5 1 bs.length (bs.map byteV) w) := by
  rcases a with _ | ad
  · obtain rfl := List.eq_nil_of_length_eq_zero (hz rfl)
    have hnil : ∀ w, (binOp .eql 48 (.slice none 0 cap) (.slice none 0 0)).run Tryz.prog w = .ok (.bool true) w := fun w => Lib.run_eql_slice_nil (P := Tryz.prog) w 48 5 none 0 cap 0 0 Tryz.underlying48
    clear hz hb hl
    go_enter Tryz.func110, Tryz.ntmps110
    go_wp2
    go_ret
    exact ⟨none, 0, rfl, World.ownsRow_nil _ _ _ _, Below.refl _ _⟩
  · clear hz
    have hnil : ∀ w, (binOp .eql 48 (.slice (some ad) bs.length cap) (.slice none 0 0)).run Tryz.prog w = .ok (.bool false) w := fun w => Lib.run_eql_slice_nil (P := Tryz.prog) w 48 5 (some ad) bs.length cap 0 0 Tryz.underlying48
    go_enter Tryz.func110, Tryz.ntmps110
    go_wp2_with (at_builtin; refine wpList_append_row rfl (.tmp 5) (.tmp 6) rfl elemB w.heap.size _ 0 [] (by rfl) (World.ownsRow_lit w #[] 0 (Nat.le_refl _) (by unfold maxLen; omega) (by rfl)) _ _ _ (bs.map byteV) (by rfl) (by simp) (RowAt.alloc hb _) (byteV_one _) (by unfold maxLen; omega) (by omega) (by simp) (by simp) ?_; intro a' c' w1 hown hg hat)
    simp only [Nat.zero_add, List.nil_append] at hown ⊢
    have hbw : Below w.heap.size w w1 := Below.appended ((Below.refl _ _).alloc (Nat.le_refl _) _) (World.ownsRow_lit (e := 5) (size := 1) w #[] 0 (Nat.le_refl _) (by unfold maxLen; omega) (by rfl)) hg (by simp) (Nat.le_refl _)
    go_wp2
    go_ret
    exact ⟨a', c', rfl, hown, hbw⟩
theorem valB_two {bs : List UInt8} {p : Nat} (h : p + 2 ≤ bs.length) : valB ((bs.drop p).take 2) = szP bs p := by
  rw [List.drop_eq_getElem_cons (show p < bs.length by omega), List.take_succ_cons, List.drop_eq_getElem_cons (show p + 1 < bs.length by omega), List.take_succ_cons, List.take_zero]
  simp [valB, szP, List.getD_eq_getElem?_getD, List.getElem?_eq_getElem (show p < bs.length by omega), List.getElem?_eq_getElem (show p + 1 < bs.length by omega)]
/-- The first numbers and bytes of some, returned. -/
def RetCut (r : Int × List Int × List UInt8 × Nat) (w : World) (en : Ending) (w' : World) : Prop :=
  ∃ a1 c1 a2 c2, en = .returned (.tuple #[.agg #[.slice a1 r.2.1.length c1, .slice a2 r.2.2.1.length c2], .int .i64 r.2.2.2, .int .i64 r.1]) ∧ w'.ownsRow w.heap.size 3 1 (.slice a1 r.2.1.length c1) r.2.1.length (r.2.1.map intV) ∧ w'.ownsRow w.heap.size 5 1 (.slice a2 r.2.2.1.length c2) r.2.2.1.length (r.2.2.1.map byteV) ∧ Below w.heap.size w w'
theorem RetCut.none (e : Int) {w w' : World} {en : Ending} (h : en = .returned (.tuple #[.agg #[.slice Option.none 0 0, .slice Option.none 0 0], .int .i64 0, .int .i64 e])) (hb : Below w.heap.size w w') : RetCut (e, [], [], 0) w en w' := ⟨Option.none, 0, Option.none, 0, h, World.ownsRow_nil _ _ _ _, World.ownsRow_nil _ _ _ _, hb⟩
/-- What holds each time that Cut comes to its label. -/
def CutInv (a : Option Addr) (cap : Nat) (bs : List UInt8) (T : Int × List Int × Nat) (w : World) (a' : Act) (wr : World) : Prop :=
  ∃ (left p : Nat) (e : Int) (acc : List Int) (aN : Option Addr) (cN : Nat) (u : Nat → Value), p ≤ bs.length ∧ acc.length + left ≤ 255 ∧ (e = 0 → numsA bs left p acc = T) ∧ (e ≠ 0 → T = (e, [], 0)) ∧
    wr.heap[w.heap.size]? = some (.cells #[.slice none 0 0, .slice none 0 0] 259) ∧ wr.heap[w.heap.size + 1]? = some (rdC a bs.length cap p e) ∧ wr.heap[w.heap.size + 2]? = some (.cells #[.slice aN acc.length cN, .slice none 0 0] 259) ∧ wr.ownsRow (w.heap.size + 3) 3 1 (.slice aN acc.length cN) acc.length (acc.map intV) ∧ Below w.heap.size w wr ∧
    a' = { tmps := #[.slice a bs.length cap, u 1, .pointer (some ⟨w.heap.size, 0, none⟩), .int .i64 0, .int .i64 0, .pointer (some ⟨w.heap.size + 1, 0, none⟩), .pointer (some ⟨w.heap.size + 2, 0, none⟩), .int .i64 (left : Int), u 8, u 9, u 10, u 11, u 12, u 13, u 14, u 15, u 16, u 17, u 18, u 19, u 20, u 21, u 22, u 23, u 24, u 25, u 26, u 27, u 28, u 29, u 30, u 31, u 32, u 33, u 34, u 35, u 36, u 37, u 38, u 39, u 40, u 41, u 42, u 43, u 44, u 45, u 46, u 47, u 48], defers := [] }
theorem CutInv.mk {a : Option Addr} {cap : Nat} {bs : List UInt8} {T : Int × List Int × Nat} {w : World} {a' : Act} {wr : World} {left p : Nat} {e : Int} {acc : List Int} {aN : Option Addr} {cN : Nat}
    (h1 : p ≤ bs.length) (h2 : acc.length + left ≤ 255) (h3 : (e = 0 → numsA bs left p acc = T)) (h4 : (e ≠ 0 → T = (e, [], 0))) (h5 : wr.heap[w.heap.size]? = some (.cells #[.slice none 0 0, .slice none 0 0] 259)) (h6 : wr.heap[w.heap.size + 1]? = some (rdC a bs.length cap p e)) (h7 : wr.heap[w.heap.size + 2]? = some (.cells #[.slice aN acc.length cN, .slice none 0 0] 259)) (h8 : wr.ownsRow (w.heap.size + 3) 3 1 (.slice aN acc.length cN) acc.length (acc.map intV)) (h9 : Below w.heap.size w wr)
    (hz : a' = { tmps := #[.slice a bs.length cap, a'.tmps.getD 1 undef, .pointer (some ⟨w.heap.size, 0, none⟩), .int .i64 0, .int .i64 0, .pointer (some ⟨w.heap.size + 1, 0, none⟩), .pointer (some ⟨w.heap.size + 2, 0, none⟩), .int .i64 (left : Int), a'.tmps.getD 8 undef, a'.tmps.getD 9 undef, a'.tmps.getD 10 undef, a'.tmps.getD 11 undef, a'.tmps.getD 12 undef, a'.tmps.getD 13 undef, a'.tmps.getD 14 undef, a'.tmps.getD 15 undef, a'.tmps.getD 16 undef, a'.tmps.getD 17 undef, a'.tmps.getD 18 undef, a'.tmps.getD 19 undef, a'.tmps.getD 20 undef, a'.tmps.getD 21 undef, a'.tmps.getD 22 undef, a'.tmps.getD 23 undef, a'.tmps.getD 24 undef, a'.tmps.getD 25 undef, a'.tmps.getD 26 undef, a'.tmps.getD 27 undef, a'.tmps.getD 28 undef, a'.tmps.getD 29 undef, a'.tmps.getD 30 undef, a'.tmps.getD 31 undef, a'.tmps.getD 32 undef, a'.tmps.getD 33 undef, a'.tmps.getD 34 undef, a'.tmps.getD 35 undef, a'.tmps.getD 36 undef, a'.tmps.getD 37 undef, a'.tmps.getD 38 undef, a'.tmps.getD 39 undef, a'.tmps.getD 40 undef, a'.tmps.getD 41 undef, a'.tmps.getD 42 undef, a'.tmps.getD 43 undef, a'.tmps.getD 44 undef, a'.tmps.getD 45 undef, a'.tmps.getD 46 undef, a'.tmps.getD 47 undef, a'.tmps.getD 48 undef], defers := [] }) : CutInv a cap bs T w a' wr :=
  ⟨left, p, e, acc, aN, cN, fun k => a'.tmps.getD k undef, h1, h2, h3, h4, h5, h6, h7, h8, h9, hz⟩
set_option maxRecDepth 100000 in
set_option maxHeartbeats 12800000 in
theorem cut_any (a : Option Addr) (cap : Nat) (bs : List UInt8) (w : World) (hb : CellsB w a bs) (hcap : bs.length ≤ cap) (hz : a = none → bs.length = 0) (hlm : bs.length ≤ 1000000) :
    Calls Tryz.prog 319 #[.slice a bs.length cap] w (RetCut (cutP bs) w) := by
  obtain ⟨T, hT, hTN⟩ : ∃ T : Int × List Int × Nat, cutP bs = (if T.1 = 0 then tailP bs T.2.1 T.2.2 else (T.1, [], [], 0)) ∧ (bs.length = 0 → T = (3, [], 0)) ∧ (0 < bs.length → numsA bs (bs.getD 0 0).toNat 1 [] = T) := by
    by_cases h0 : bs.length = 0
    · exact ⟨(3, [], 0), by unfold cutP; rw [if_pos h0]; rfl, fun _ => rfl, fun h => by omega⟩
    · exact ⟨numsA bs (bs.getD 0 0).toNat 1 [], by unfold cutP; rw [if_neg h0], fun h => (h0 h).elim, fun _ => rfl⟩
  have HC := Lib.hid hT
  have HT := Lib.hid hTN
  have HB := Lib.hid hb
  have hlm' : (bs.length : Int) ≤ 1000000 := by omega
  clear hT hTN hb
  go_enter Tryz.func319, Tryz.ntmps319
  have HCl : Hid (∀ W, Calls Tryz.prog 110 #[.slice none 0 0] W (RetRow 5 1 0 [] W)) := fun W => cloneB_any none 0 [] W (RowAt.nil) (fun _ => rfl) (by simp)
  go_wp2
  refine scope_loop 0 (CutInv a cap bs T w) (fun a' _ => match a'.tmps.getD 7 undef with | .int _ n => n.toNat | _ => 0) rfl ?_ ?_
  · rintro a' wr ⟨left, p, e, acc, aN, cN, u, hp, hal, hT0, hT1, g0, g1, g2, hown, hw0, rfl⟩
    obtain ⟨xc0, xc1, xf0, xf1, xlt⟩ := box2 g0
    obtain ⟨rc0, rc1, rc2, rf0, rf1, rf2, rlt⟩ := box3 g1
    obtain ⟨fc0, fc1, ff0, ff1, flt⟩ := box2 g2
    have hsz := hw0.size
    by_cases hgo : 0 < left ∧ e = 0
    · obtain ⟨hl, rfl⟩ := hgo
      have hT := hT0 rfl
      clear hT0 hT1
      obtain ⟨m, rfl⟩ : ∃ m, left = m + 1 := ⟨left - 1, by omega⟩
      have HF : Hid (∀ W, Below w.heap.size w W → W.heap[w.heap.size + 1]? = some (rdC a bs.length cap p 0) → Calls Tryz.prog 361 #[.pointer (some ⟨w.heap.size + 1, 0, none⟩)] W (RetField (w.heap.size + 1) a bs.length cap p (numP (bs.drop p)) W)) := fun W h g => field_any (w.heap.size + 1) a bs cap p hp hlm hcap w W HB.out h (by omega) g
      have HN : Hid ((numP (bs.drop p)).1 = 0 → numsA bs m (p + (numP (bs.drop p)).2.2) (acc ++ [((numP (bs.drop p)).2.1 : Int)]) = T) := fun h => by rw [numsA_go h] at hT; exact hT
      have HS : Hid ((numP (bs.drop p)).1 ≠ 0 → T = ((numP (bs.drop p)).1, [], 0)) := fun h => by rw [numsA_stop h] at hT; exact hT.symm
      clear hT
      generalize numP (bs.drop p) = r at HF HN HS
      obtain ⟨re, rv, rn⟩ := r
      simp only at HN HS
      have hm0 : (0 : Int) < (m : Int) + 1 := by omega
      have hacc : acc.length ≤ 255 := by omega
      have hF3 : w.heap.size + 3 ≤ wr.heap.size := flt
      go_wp2
      go_region_law (first
        | (go_simp; go_at_call 361; refine (HF.out _ hw0.drew (blk_drawn g1)).mono ?_; rintro en w1 ⟨rfl, ⟨q, r1, hq, hqe⟩, o1⟩; have hw1 := o1.below hw0.drew (by omega) hsz; have x1 := o1.keep (blk_drawn g0) (by omega); have f1 := o1.keep (blk_drawn g2) (by omega); have own1 := own_only (own_drawn hown) o1 (by omega); obtain ⟨fb0, fb1, fg0, fg1, flt1⟩ := box2 f1; have fe0 := (box2 (blk_alloc f1 (.cells #[.int .i64 rv] 3))).1; have hsz1 := hw1.size; have hq0 := Lib.hid hqe; clear hqe; (try go_simp))
        | (refine step_append_row rfl (.tmp 20) (.tmp 22) rfl elemI (w.heap.size + 3) (.slice aN acc.length cN) acc.length (acc.map intV) (by rfl) (own_below own1 (below1 w1 (.cells #[.int .i64 rv] 3))) (some ⟨w1.heap.size, 0, none⟩) 1 1 [.int .i64 rv] (by rfl) (by rfl) (RowAt.new w1 #[.int .i64 rv] 3) (intV_one [(rv : Int)]) (by unfold maxLen; omega) (by omega) (by simp; omega) (fun h => by cases h) ?_; intro a2 c2 w2 hown2 hg2 hat2; have hne : ∀ k, k < w.heap.size + 3 → (Value.slice aN acc.length cN).ownBlock ≠ some k := (fun k hk e => by have := (own1.lt _ e).1; omega); have hw2 := Below.appended (hw1.alloc hsz1 (.cells #[.int .i64 rv] 3)) (own_below own1 (below1 w1 (.cells #[.int .i64 rv] 3))) hg2 (hw1.alloc hsz1 (.cells #[.int .i64 rv] 3)).size (by omega); have x2 := blk_grown hg2 (blk_alloc x1 (.cells #[.int .i64 rv] 3)) (hne _ (by omega)); have r2 := blk_grown hg2 (blk_alloc r1 (.cells #[.int .i64 rv] 3)) (hne _ (by omega)); have f2 := blk_grown hg2 (blk_alloc f1 (.cells #[.int .i64 rv] 3)) (hne _ (by omega)); obtain ⟨fd0, fd1, fh0, fh1, flt2⟩ := box2 f2))
      go_wp2
      all_goals
        have hl1 : (acc ++ [(rv : Int)]).length = acc.length + 1 := by simp
        have hown3 : (w2.setCell ⟨w.heap.size + 2, 0, none⟩ (.slice a2 (acc.length + 1) c2)).ownsRow (w.heap.size + 3) 3 1 (.slice a2 (acc.length + 1) c2) (acc.length + 1) ((acc ++ [(rv : Int)]).map intV) := ownsRow_setCell_below (by rw [List.map_append]; exact hown2) (a := ⟨w.heap.size + 2, 0, none⟩) (by show w.heap.size + 2 < _; omega) _
        have f3 := blk_set (i := 0) f2 (.slice a2 (acc.length + 1) c2)
        have x3 := blk_far (i := 0) x2 (G := w.heap.size + 2) (by omega) (.slice a2 (acc.length + 1) c2)
        have r3 := blk_far (i := 0) r2 (G := w.heap.size + 2) (by omega) (.slice a2 (acc.length + 1) c2)
        have hw3 := hw2.setCell (p := ⟨w.heap.size + 2, 0, none⟩) (by show w.heap.size ≤ w.heap.size + 2; omega) (.slice a2 (acc.length + 1) c2)
        refine wp_goto (And.intro rfl (And.intro (CutInv.mk (left := m) (p := q) (e := re) (acc := acc ++ [(rv : Int)]) (aN := a2) (cN := c2) hq (by omega) (fun h => by rw [hq0.out h]; exact HN.out h) HS.out x3 r3 (by rw [hl1]; exact f3) (by rw [hl1]; exact hown3) hw3 rfl) ?_))
        show m < m + 1
        omega
    · have hsz0 : w.heap.size ≤ wr.heap.size := hsz
      by_cases he : e = 0
      · subst he
        have hT := hT0 rfl
        obtain rfl : left = 0 := by omega
        clear hT0 hT1 hgo
        obtain rfl : T = (0, acc, p) := hT.symm
        have hbig : bs.length ≤ 1000000 := hlm
        by_cases c1 : bs.length < p + 2
        · have HRet : Hid (cutP bs = (3, [], [], 0)) := by rw [Hid, HC.out, if_pos rfl]; unfold tailP; rw [if_pos c1]
          have HNb : Hid (∀ W, W.heap[w.heap.size + 1]? = some (rdC a bs.length cap p 0) → Calls Tryz.prog 360 #[.pointer (some ⟨w.heap.size + 1, 0, none⟩), .int .i64 2] W fun en w' => en = .returned (.int .i64 0) ∧ w'.heap[w.heap.size + 1]? = some (rdC a bs.length cap p 3) ∧ Only (w.heap.size + 1) W w') := fun W g => number_more (w.heap.size + 1) a bs.length cap p 2 c1 hlm (by omega) W g
          have HTb : Hid (∀ W, W.heap[w.heap.size + 1]? = some (rdC a bs.length cap p 3) → Calls Tryz.prog 362 #[.pointer (some ⟨w.heap.size + 1, 0, none⟩), .int .i64 0] W fun en w' => en = .returned (.slice none 0 0) ∧ ∃ k, w' = W.drewN k) := fun W g => take_bad (w.heap.size + 1) a bs.length cap p 3 0 (by decide) W g
          clear hT c1
          go_wp2_with (first
            | (go_at_call 360; refine (HNb.out _ g1).mono ?_; rintro en w1 ⟨rfl, r1, o1⟩; have hw1 := o1.below hw0 (by omega) hsz0; have x1 := o1.keep g0 (by omega); have f1 := o1.keep g2 (by omega); obtain ⟨rc0, rc1, rc2, rf0, rf1, rf2, rlt⟩ := box3 r1; have hsz1 := hw1.size)
            | (go_at_call 362; refine (HTb.out _ r1).mono ?_; rintro en w2 ⟨rfl, k2, rfl⟩; have x2 := blk_many x1 k2; have r2 := blk_many r1 k2; have f2 := blk_many f1 k2; have hw2 := Below.many hw1 k2; have hsz2 := hw2.size)
            | (go_at_call 110; refine (HCl.out _).mono ?_; rintro en w3 ⟨a3, c3, rfl, hown3, hb3⟩; have hw3 := hw2.trans (hb3.mono hsz2); have x3 := blk_keep hb3 x2; have r3 := blk_keep hb3 r2; have f3 := blk_keep hb3 f2; obtain ⟨fc0, fc1, ff0, ff1, flt⟩ := box2 f3; have r4 := blk_far (i := 1) r3 (G := w.heap.size + 2) (by omega) (.slice a3 0 c3); have x4 := blk_far (i := 1) x3 (G := w.heap.size + 2) (by omega) (.slice a3 0 c3); obtain ⟨rc0, rc1, rc2, rf0, rf1, rf2, rlt⟩ := box3 r4; obtain ⟨xc0, xc1, xf0, xf1, xlt⟩ := box2 x4; have hw4 := hw3.setCell (p := ⟨w.heap.size + 2, 1, none⟩) (by show w.heap.size ≤ w.heap.size + 2; omega) (.slice a3 0 c3)))
          go_region_held3 (fun W => W.cell? ⟨w.heap.size + 1, 2, none⟩ = some (.int .i64 3)) (first | exact rc2 | go_keep) (fail)
          go_wp2
          simp only [Exit.jump]
          obtain ⟨q0, q1, _⟩ := box2 (blk_drawn (set2_blk x4 (.slice none 0 0) (.slice none 0 0)))
          refine bodyPost_ret (v := .tuple #[.agg #[.slice none 0 0, .slice none 0 0], .int .i64 0, .int .i64 3]) (by simp [results, Tryz.results319, go_sem, q0, q1]) rfl ?_
          rw [HRet.out]
          exact RetCut.none _ rfl (set2_below hw4 (Nat.le_refl _) _ _).drew
        · have hsv : valB ((bs.drop p).take 2) = szP bs p := valB_two (by omega)
          have HNo : Hid (∀ W, Below w.heap.size w W → W.heap[w.heap.size + 1]? = some (rdC a bs.length cap p 0) → Calls Tryz.prog 360 #[.pointer (some ⟨w.heap.size + 1, 0, none⟩), .int .i64 2] W fun en w' => en = .returned (.int .i64 (szP bs p : Nat)) ∧ w'.heap[w.heap.size + 1]? = some (rdC a bs.length cap ((p : Int) + 2) 0) ∧ Only (w.heap.size + 1) W w') := fun W h g => by
            have := number_ok (w.heap.size + 1) a bs cap p 2 (by omega) (by omega) hlm hcap w W HB.out h (by omega) g
            rw [hsv] at this
            exact this
          have hTail : tailP bs acc p = (if 4096 < szP bs p then (7, [], [], 0) else if bs.length < p + 2 + szP bs p then (3, [], [], 0) else (0, acc, (bs.drop (p + 2)).take (szP bs p), p + 2 + szP bs p)) := by unfold tailP; rw [if_neg c1]
          have HC2 : Hid (cutP bs = tailP bs acc p) := by rw [Hid, HC.out, if_pos rfl]
          have hs16 : szP bs p < 65536 := by
            have h1 := (bs.getD p 0).toNat_lt
            have h2 := (bs.getD (p + 1) 0).toNat_lt
            unfold szP; omega
          clear hsv hT HC HT
          generalize szP bs p = s at HNo hTail hs16
          have e2 : ((p + 2 : Nat) : Int) = (p : Int) + 2 := by omega
          by_cases c2 : 4096 < s
          · rw [if_pos c2] at hTail
            have HRet : Hid (cutP bs = (7, [], [], 0)) := by rw [Hid, HC2.out, hTail]
            have HTb : Hid (∀ W, W.heap[w.heap.size + 1]? = some (rdC a bs.length cap ((p : Int) + 2) 7) → Calls Tryz.prog 362 #[.pointer (some ⟨w.heap.size + 1, 0, none⟩), .int .i64 s] W fun en w' => en = .returned (.slice none 0 0) ∧ ∃ k, w' = W.drewN k) := fun W g => take_bad (w.heap.size + 1) a bs.length cap ((p : Int) + 2) 7 s (by decide) W g
            have c2' : (4096 : Int) < (s : Int) := by omega
            clear hTail c1 e2 hs16 HC2
            go_wp2_with (first
              | (go_at_call 360; refine (HNo.out _ hw0 g1).mono ?_; rintro en w1 ⟨rfl, r1, o1⟩; have hw1 := o1.below hw0 (by omega) hsz0; have x1 := o1.keep g0 (by omega); have f1 := o1.keep g2 (by omega); obtain ⟨rc0, rc1, rc2, rf0, rf1, rf2, rlt⟩ := box3 r1; have hsz1 := hw1.size)
              | (go_at_call 362; refine (HTb.out _ (blk_set (i := 2) r1 (.int .i64 7))).mono ?_; rintro en w2 ⟨rfl, k2, rfl⟩; have x2 := blk_many (blk_far (i := 2) x1 (G := w.heap.size + 1) (by omega) (.int .i64 7)) k2; have r2 := blk_many (blk_set (i := 2) r1 (.int .i64 7)) k2; have f2 := blk_many (blk_far (i := 2) f1 (G := w.heap.size + 1) (by omega) (.int .i64 7)) k2; have hw2 := Below.many (hw1.setCell (p := ⟨w.heap.size + 1, 2, none⟩) (by show w.heap.size ≤ w.heap.size + 1; omega) (.int .i64 7)) k2; have hsz2 := hw2.size)
              | (go_at_call 110; refine (HCl.out _).mono ?_; rintro en w3 ⟨a3, c3, rfl, hown3, hb3⟩; have hw3 := hw2.trans (hb3.mono hsz2); have x3 := blk_keep hb3 x2; have r3 := blk_keep hb3 r2; have f3 := blk_keep hb3 f2; obtain ⟨fc0, fc1, ff0, ff1, flt⟩ := box2 f3; have r4 := blk_far (i := 1) r3 (G := w.heap.size + 2) (by omega) (.slice a3 0 c3); have x4 := blk_far (i := 1) x3 (G := w.heap.size + 2) (by omega) (.slice a3 0 c3); obtain ⟨rc0, rc1, rc2, rf0, rf1, rf2, rlt⟩ := box3 r4; obtain ⟨xc0, xc1, xf0, xf1, xlt⟩ := box2 x4; have hw4 := hw3.setCell (p := ⟨w.heap.size + 2, 1, none⟩) (by show w.heap.size ≤ w.heap.size + 2; omega) (.slice a3 0 c3)))
            go_region_held3 (fun W => W.cell? ⟨w.heap.size + 1, 2, none⟩ = some (.int .i64 7)) (first | exact rc2 | go_keep) (fail)
            go_wp2
            simp only [Exit.jump]
            obtain ⟨q0, q1, _⟩ := box2 (blk_drawn (set2_blk x4 (.slice none 0 0) (.slice none 0 0)))
            refine bodyPost_ret (v := .tuple #[.agg #[.slice none 0 0, .slice none 0 0], .int .i64 0, .int .i64 7]) (by simp [results, Tryz.results319, go_sem, q0, q1]) rfl ?_
            rw [HRet.out]
            exact RetCut.none _ rfl (set2_below hw4 (Nat.le_refl _) _ _).drew
          · rw [if_neg c2] at hTail
            have c2' : decide ((4096 : Int) < (s : Int)) = false := decide_eq_false (by omega)
            by_cases c3 : bs.length < p + 2 + s
            · rw [if_pos c3] at hTail
              have HRet : Hid (cutP bs = (3, [], [], 0)) := by rw [Hid, HC2.out, hTail]
              have HTb : Hid (∀ W, W.heap[w.heap.size + 1]? = some (rdC a bs.length cap ((p : Int) + 2) 0) → Calls Tryz.prog 362 #[.pointer (some ⟨w.heap.size + 1, 0, none⟩), .int .i64 s] W fun en w' => en = .returned (.slice none 0 0) ∧ w'.heap[w.heap.size + 1]? = some (rdC a bs.length cap ((p + 2 : Nat) : Int) 3) ∧ Only (w.heap.size + 1) W w') := fun W g => take_more (w.heap.size + 1) a bs.length cap (p + 2) s (by omega) hlm (by omega) W (by rw [e2]; exact g)
              clear hTail c1 c2 c3 e2 HC2
              go_wp2_with (first
                | (go_at_call 360; refine (HNo.out _ hw0 g1).mono ?_; rintro en w1 ⟨rfl, r1, o1⟩; have hw1 := o1.below hw0 (by omega) hsz0; have x1 := o1.keep g0 (by omega); have f1 := o1.keep g2 (by omega); obtain ⟨rc0, rc1, rc2, rf0, rf1, rf2, rlt⟩ := box3 r1; have hsz1 := hw1.size)
                | (go_at_call 362; refine (HTb.out _ r1).mono ?_; rintro en w2 ⟨rfl, r2, o2⟩; have hw2 := o2.below hw1 (by omega) hsz1; have x2 := o2.keep x1 (by omega); have f2 := o2.keep f1 (by omega); have hsz2 := hw2.size)
                | (go_at_call 110; refine (HCl.out _).mono ?_; rintro en w3 ⟨a3, c3, rfl, hown3, hb3⟩; have hw3 := hw2.trans (hb3.mono hsz2); have x3 := blk_keep hb3 x2; have r3 := blk_keep hb3 r2; have f3 := blk_keep hb3 f2; obtain ⟨fc0, fc1, ff0, ff1, flt⟩ := box2 f3; have r4 := blk_far (i := 1) r3 (G := w.heap.size + 2) (by omega) (.slice a3 0 c3); have x4 := blk_far (i := 1) x3 (G := w.heap.size + 2) (by omega) (.slice a3 0 c3); obtain ⟨rc0, rc1, rc2, rf0, rf1, rf2, rlt⟩ := box3 r4; obtain ⟨xc0, xc1, xf0, xf1, xlt⟩ := box2 x4; have hw4 := hw3.setCell (p := ⟨w.heap.size + 2, 1, none⟩) (by show w.heap.size ≤ w.heap.size + 2; omega) (.slice a3 0 c3)))
              go_region_held3 (fun W => W.cell? ⟨w.heap.size + 1, 2, none⟩ = some (.int .i64 3)) (first | exact rc2 | go_keep) (fail)
              go_wp2
              simp only [Exit.jump]
              obtain ⟨q0, q1, _⟩ := box2 (blk_drawn (set2_blk x4 (.slice none 0 0) (.slice none 0 0)))
              refine bodyPost_ret (v := .tuple #[.agg #[.slice none 0 0, .slice none 0 0], .int .i64 0, .int .i64 3]) (by simp [results, Tryz.results319, go_sem, q0, q1]) rfl ?_
              rw [HRet.out]
              exact RetCut.none _ rfl (set2_below hw4 (Nat.le_refl _) _ _).drew
            · rw [if_neg c3] at hTail
              have HRet : Hid (cutP bs = (0, acc, (bs.drop (p + 2)).take s, p + 2 + s)) := by rw [Hid, HC2.out, hTail]
              have HTb : Hid (∀ W, W.heap[w.heap.size + 1]? = some (rdC a bs.length cap ((p : Int) + 2) 0) → Calls Tryz.prog 362 #[.pointer (some ⟨w.heap.size + 1, 0, none⟩), .int .i64 s] W fun en w' => en = .returned (.slice (cutA a (p + 2 + s) (p + 2)) s s) ∧ w'.heap[w.heap.size + 1]? = some (rdC a bs.length cap ((p : Int) + 2 + (s : Int)) 0) ∧ Only (w.heap.size + 1) W w') := fun W g => by
                have := take_ok (w.heap.size + 1) a bs.length cap (p + 2) s (by omega) hlm hcap W (by rw [e2]; exact g)
                rwa [show ((p + 2 + s : Nat) : Int) = (p : Int) + 2 + (s : Int) by omega] at this
              have hDl : ((bs.drop (p + 2)).take s).length = s := by rw [List.length_take, List.length_drop]; omega
              have hDc := HB.out.three (p + 2) s
              have hDn : cutA a (p + 2 + s) (p + 2) = none → s = 0 := fun h => by
                unfold cutA at h
                by_cases hs0 : s = 0
                · exact hs0
                · rw [if_neg (by omega)] at h
                  have := hz (by simpa using h)
                  omega
              have HCd : Hid (∀ W, Below w.heap.size w W → Calls Tryz.prog 110 #[.slice (cutA a (p + 2 + s) (p + 2)) s s] W (RetRow 5 1 s (((bs.drop (p + 2)).take s).map byteV) W)) := fun W h => by
                have := cloneB_any (cutA a (p + 2 + s) (p + 2)) s ((bs.drop (p + 2)).take s) W (hDc.below h) (fun h => by rw [hDl]; exact hDn h) (by omega)
                rwa [hDl] at this
              have HDl := Lib.hid hDl
              clear hTail c1 c2 c3 e2 HC2 hDl hDc hDn
              generalize cutA a (p + 2 + s) (p + 2) = A at HTb HCd
              generalize (bs.drop (p + 2)).take s = D at HRet HCd HDl
              go_wp2_with (first
                | (go_at_call 360; refine (HNo.out _ hw0 g1).mono ?_; rintro en w1 ⟨rfl, r1, o1⟩; have hw1 := o1.below hw0 (by omega) hsz0; have x1 := o1.keep g0 (by omega); have f1 := o1.keep g2 (by omega); have own1 := own_only hown o1 (by omega); obtain ⟨rc0, rc1, rc2, rf0, rf1, rf2, rlt⟩ := box3 r1; have hsz1 := hw1.size)
                | (go_at_call 362; refine (HTb.out _ r1).mono ?_; rintro en w2 ⟨rfl, r2, o2⟩; have hw2 := o2.below hw1 (by omega) hsz1; have x2 := o2.keep x1 (by omega); have f2 := o2.keep f1 (by omega); have own2 := own_only own1 o2 (by omega); have hsz2 := hw2.size)
                | (go_at_call 110; refine (HCd.out _ hw2).mono ?_; rintro en w3 ⟨a3, c3, rfl, hown3, hb3⟩; have hsz2' := blk_lt f2; have hw3 := hw2.trans (hb3.mono hsz2); have x3 := blk_keep hb3 x2; have r3 := blk_keep hb3 r2; have f3 := blk_keep hb3 f2; have own3 := own_below own2 hb3; obtain ⟨fc0, fc1, ff0, ff1, flt⟩ := box2 f3; have r4 := blk_far (i := 1) r3 (G := w.heap.size + 2) (by omega) (.slice a3 s c3); have x4 := blk_far (i := 1) x3 (G := w.heap.size + 2) (by omega) (.slice a3 s c3); have f4 := blk_set (i := 1) f3 (.slice a3 s c3); obtain ⟨rc0, rc1, rc2, rf0, rf1, rf2, rlt⟩ := box3 r4; obtain ⟨xc0, xc1, xf0, xf1, xlt⟩ := box2 x4; obtain ⟨fd0, fd1, fe0, fe1, flt'⟩ := box2 f4; have hw4 := hw3.setCell (p := ⟨w.heap.size + 2, 1, none⟩) (by show w.heap.size ≤ w.heap.size + 2; omega) (.slice a3 s c3)))
              go_region_held3 (fun W => W.cell? ⟨w.heap.size + 1, 1, none⟩ = some (.int .i64 ((p : Int) + 2 + (s : Int))) ∧ W.cell? ⟨w.heap.size + 2, 0, none⟩ = some (.slice aN acc.length cN) ∧ W.cell? ⟨w.heap.size + 2, 1, none⟩ = some (.slice a3 s c3)) (first | exact ⟨rc1, fd0, fd1⟩ | go_keep) (fail)
              go_wp2
              simp only [Exit.jump]
              obtain ⟨q0, q1, _⟩ := box2 (blk_drawn (set2_blk x4 (.slice aN acc.length cN) (.slice a3 s c3)))
              refine bodyPost_ret (v := .tuple #[.agg #[.slice aN acc.length cN, .slice a3 s c3], .int .i64 ((p : Int) + 2 + (s : Int)), .int .i64 0]) (by simp [results, Tryz.results319, go_sem, q0, q1]) rfl ?_
              rw [HRet.out]
              have hlw2 : w.heap.size ≤ w2.heap.size := hsz2
              refine ⟨aN, cN, a3, c3, ?_, ?_, ?_, ((hw4.setCell (p := ⟨w.heap.size, 0, none⟩) (Nat.le_refl _) _).setCell (p := ⟨w.heap.size, 1, none⟩) (Nat.le_refl _) _).drew⟩
              · simp only [HDl.out]
                rw [show ((p + 2 + s : Nat) : Int) = (p : Int) + 2 + (s : Int) by omega]
              · exact own_base (base := w.heap.size + 3) (own_drawn (ownsRow_setCell_below (ownsRow_setCell_below (ownsRow_setCell_below own3 (a := ⟨w.heap.size + 2, 1, none⟩) (by show w.heap.size + 2 < _; omega) _) (a := ⟨w.heap.size, 0, none⟩) (by show w.heap.size < _; omega) _) (a := ⟨w.heap.size, 1, none⟩) (by show w.heap.size < _; omega) _)) (by omega)
              · simp only [HDl.out]
                exact own_base (base := w2.heap.size) (own_drawn (ownsRow_setCell_below (ownsRow_setCell_below (ownsRow_setCell_below hown3 (a := ⟨w.heap.size + 2, 1, none⟩) (by show w.heap.size + 2 < _; omega) _) (a := ⟨w.heap.size, 0, none⟩) (by show w.heap.size < _; omega) _) (a := ⟨w.heap.size, 1, none⟩) (by show w.heap.size < _; omega) _)) hlw2
      · have hT := hT1 he
        have he1 : (e == 0) = false := by simpa using he
        have he2 : (e != 0) = true := by simpa using he
        have HRet : Hid (cutP bs = (e, [], [], 0)) := by rw [Hid, HC.out, hT, if_neg he]
        have HNb : Hid (∀ W, W.heap[w.heap.size + 1]? = some (rdC a bs.length cap p e) → Calls Tryz.prog 360 #[.pointer (some ⟨w.heap.size + 1, 0, none⟩), .int .i64 2] W fun en w' => en = .returned (.int .i64 0) ∧ w'.heap[w.heap.size + 1]? = some (rdC a bs.length cap p e) ∧ Only (w.heap.size + 1) W w') := fun W g => number_bad (w.heap.size + 1) a bs.length cap p e 2 he W g
        have HTb : Hid (∀ W, W.heap[w.heap.size + 1]? = some (rdC a bs.length cap p e) → Calls Tryz.prog 362 #[.pointer (some ⟨w.heap.size + 1, 0, none⟩), .int .i64 0] W fun en w' => en = .returned (.slice none 0 0) ∧ ∃ k, w' = W.drewN k) := fun W g => take_bad (w.heap.size + 1) a bs.length cap p e 0 he W g
        clear hT0 hT1 hgo hT he
        have hleft : left = 0 ∨ 0 < left := by omega
        rcases hleft with rfl | hl
        all_goals
          try have hl' : (0 : Int) < (left : Int) := by omega
          go_wp2_with (first
            | (go_at_call 360; refine (HNb.out _ g1).mono ?_; rintro en w1 ⟨rfl, r1, o1⟩; have hw1 := o1.below hw0 (by omega) hsz0; have x1 := o1.keep g0 (by omega); have f1 := o1.keep g2 (by omega); obtain ⟨rc0, rc1, rc2, rf0, rf1, rf2, rlt⟩ := box3 r1; have hsz1 := hw1.size)
            | (go_at_call 362; refine (HTb.out _ r1).mono ?_; rintro en w2 ⟨rfl, k2, rfl⟩; have x2 := blk_many x1 k2; have r2 := blk_many r1 k2; have f2 := blk_many f1 k2; have hw2 := Below.many hw1 k2; have hsz2 := hw2.size)
            | (go_at_call 110; refine (HCl.out _).mono ?_; rintro en w3 ⟨a3, c3, rfl, hown3, hb3⟩; have hw3 := hw2.trans (hb3.mono hsz2); have x3 := blk_keep hb3 x2; have r3 := blk_keep hb3 r2; have f3 := blk_keep hb3 f2; obtain ⟨fc0, fc1, ff0, ff1, flt⟩ := box2 f3; have r4 := blk_far (i := 1) r3 (G := w.heap.size + 2) (by omega) (.slice a3 0 c3); have x4 := blk_far (i := 1) x3 (G := w.heap.size + 2) (by omega) (.slice a3 0 c3); obtain ⟨rc0, rc1, rc2, rf0, rf1, rf2, rlt⟩ := box3 r4; obtain ⟨xc0, xc1, xf0, xf1, xlt⟩ := box2 x4; have hw4 := hw3.setCell (p := ⟨w.heap.size + 2, 1, none⟩) (by show w.heap.size ≤ w.heap.size + 2; omega) (.slice a3 0 c3)))
          go_region_held3 (fun W => W.cell? ⟨w.heap.size + 1, 2, none⟩ = some (.int .i64 e)) (first | exact rc2 | go_keep) (fail)
          go_wp2
          simp only [Exit.jump]
          obtain ⟨q0, q1, _⟩ := box2 (blk_drawn (set2_blk x4 (.slice none 0 0) (.slice none 0 0)))
          refine bodyPost_ret (v := .tuple #[.agg #[.slice none 0 0, .slice none 0 0], .int .i64 0, .int .i64 e]) (by simp [results, Tryz.results319, go_sem, q0, q1]) rfl ?_
          rw [HRet.out]
          exact RetCut.none _ rfl (set2_below hw4 (Nat.le_refl _) _ _).drew
  · intro hp
    have AL := alloc3 w (.cells #[.slice none 0 0, .slice none 0 0] 259) (rdC a bs.length cap 0 0) (.cells #[.slice none 0 0, .slice none 0 0] 259)
    have HAL := Lib.hid AL
    clear AL
    by_cases h0 : bs.length = 0
    · have HTT := Lib.hid (HT.out.1 h0)
      have HNm : Hid (∀ W, W.heap[w.heap.size + 1]? = some (rdC a bs.length cap 0 0) → Calls Tryz.prog 360 #[.pointer (some ⟨w.heap.size + 1, 0, none⟩), .int .i64 1] W fun en w' => en = .returned (.int .i64 0) ∧ w'.heap[w.heap.size + 1]? = some (rdC a bs.length cap 0 3) ∧ Only (w.heap.size + 1) W w') := fun W g => number_more (w.heap.size + 1) a bs.length cap 0 1 (by omega) hlm (by omega) W g
      clear h0
      go_wp2_with (go_at_call 360; refine (HNm.out _ HAL.out.1.2.1).mono ?_; rintro en w1 ⟨rfl, r1, o1⟩)
      go_step3
      obtain ⟨⟨q0, q1, q2⟩, hsz, hbw⟩ := HAL.out
      refine (by assumption : ∀ (a : Act) (w : World), _ → _) _ _ (hp _ _ ?_)
      exact CutInv.mk (left := 0) (p := 0) (e := 3) (acc := []) (aN := none) (cN := 0) (by omega) (by simp) (fun h => by cases h) (fun _ => HTT.out) (o1.keep q0 (by omega)) r1 (o1.keep q2 (by omega)) (World.ownsRow_nil _ _ _ _) (o1.below hbw (by omega) (by omega)) rfl
    · have HTT := Lib.hid (HT.out.2 (by omega))
      have HNo : Hid (∀ W, Below w.heap.size w W → W.heap[w.heap.size + 1]? = some (rdC a bs.length cap 0 0) → Calls Tryz.prog 360 #[.pointer (some ⟨w.heap.size + 1, 0, none⟩), .int .i64 1] W fun en w' => en = .returned (.int .i64 ((bs.getD 0 0).toNat : Nat)) ∧ w'.heap[w.heap.size + 1]? = some (rdC a bs.length cap 1 0) ∧ Only (w.heap.size + 1) W w') := fun W h g => by
        have := number_ok (w.heap.size + 1) a bs cap 0 1 (by omega) (by omega) hlm hcap w W HB.out h (by omega) g
        rw [valB_one (by omega)] at this
        exact this
      have hc := (bs.getD 0 0).toNat_lt
      generalize (bs.getD 0 0).toNat = c at HTT HNo hc
      have h1 : 1 ≤ bs.length := by omega
      clear h0
      go_wp2_with (go_at_call 360; refine (HNo.out _ HAL.out.2.2 HAL.out.1.2.1).mono ?_; rintro en w1 ⟨rfl, r1, o1⟩)
      go_step3
      obtain ⟨⟨q0, q1, q2⟩, hsz, hbw⟩ := HAL.out
      refine (by assumption : ∀ (a : Act) (w : World), _ → _) _ _ (hp _ _ ?_)
      exact CutInv.mk (left := c) (p := 1) (e := 0) (acc := []) (aN := none) (cN := 0) h1 (by simp; omega) (fun _ => HTT.out) (fun h => (h rfl).elim) (o1.keep q0 (by omega)) r1 (o1.keep q2 (by omega)) (World.ownsRow_nil _ _ _ _) (o1.below hbw (by omega) (by omega)) rfl
end Go.Proofs.YthjdbmfobmnnlaaGreat
