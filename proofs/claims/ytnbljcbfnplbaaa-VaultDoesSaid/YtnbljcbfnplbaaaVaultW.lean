/-
  The document's reading.
-/
import Derived.Test.YtnbljcbfnplbaaaVaultV
import Derived.Test.YtnbljcbfnplbaaaVaultE
import Derived.Deep.CutBlock
namespace Go.Proofs.Ytnbljcbfnplbaaa
open Go.RowKit
set_option linter.unusedVariables false
theorem LogIn.setFrm {w : World} {A : Option Addr} {c : Nat} {es : List En} {base R : Nat} (h : LogIn w A c es) (hf : Frm base A es.length) (hR : R < base) (i : Nat) (v : Value) : LogIn (w.setCell ⟨R, i, none⟩ v) A c es :=
  ⟨row_ne h.row (fun hx b o ha => by
    have := hf (fun h0 => hx (by rw [List.eq_nil_of_length_eq_zero h0]; rfl)) b o ha
    omega) i v, h.cap, h.none_, h.max⟩
theorem LogIn.set3Frm {w : World} {A : Option Addr} {c : Nat} {es : List En} {base R : Nat} (h : LogIn w A c es) (hf : Frm base A es.length) (hR : R < base) (x y z : Value) : LogIn (set3 w R x y z) A c es := ((h.setFrm hf hR 0 x).setFrm hf hR 1 y).setFrm hf hR 2 z
theorem LogIn.set2Frm {w : World} {A : Option Addr} {c : Nat} {es : List En} {base R : Nat} (h : LogIn w A c es) (hf : Frm base A es.length) (hR : R < base) (x y : Value) : LogIn (set2 w R x y) A c es := (h.setFrm hf hR 0 x).setFrm hf hR 1 y
/-- A ballot, a log and a number, as the document gives them. -/
def RetReadR (r : St × Nat) (w : World) (en : Ending) (w' : World) : Prop := ∃ A c, en = .returned (.tuple #[ballotV r.1.1 r.1.2.1, logV 0 0 A r.1.2.2.length c, .int .i64 r.2]) ∧ LogIn w' A c r.1.2.2 ∧ Frm w.heap.size A r.1.2.2.length ∧ Below w.heap.size w w'
set_option maxRecDepth 100000 in
set_option maxHeartbeats 12800000 in
theorem refRead_any (a : Option Addr) (cap : Nat) (bs : List UInt8) (w : World) (hb : CellsB w a bs) (hz : a = none → bs.length = 0) (hcap : bs.length ≤ cap) (hl : bs.length ≤ 900000) :
    Calls Try.prog 23 #[.slice a bs.length cap] w (RetReadR (readV bs) w) := by
  have HB := Lib.hid hb
  have HZ := Lib.hid hz
  clear hz
  obtain ⟨⟨g0, g1, g2⟩, hz3, hw3⟩ := alloc3 w (.cells #[.int .i64 0, .int .i64 0] 23) (.cells #[.int .i64 0, .int .i64 0, .slice none 0 0] 26) (.cells #[.int .i64 0, .int .i64 0, .slice none 0 0] 48)
  have HZ3 := Lib.hid hz3
  clear hz3
  go_enter Try.func23, Try.ntmps23
  go_upto_block 0 with fail
  go_cut [6] (fun i wx => ∃ (k : Nat) (t v : Int) (es : List En) (A : Option Addr) (c : Nat), i = .int .i64 k ∧ Hid (readV bs = ((t, v, es), k)) ∧ wx.heap[w.heap.size + 2]? = some (.cells #[.int .i64 t, .int .i64 v, .slice A es.length c] 48) ∧ LogIn wx A c es ∧ Frm (w.heap.size + 3) A es.length ∧ wx.heap[w.heap.size]? = some (.cells #[.int .i64 0, .int .i64 0] 23) ∧ wx.heap[w.heap.size + 1]? = some (.cells #[.int .i64 0, .int .i64 0, .slice none 0 0] 26) ∧ Below w.heap.size w wx)
  case first =>
    go_wp2
    go_loopw [6] (fun i wr => ∃ (k : Nat) (t v : Int) (es : List En) (A : Option Addr) (c : Nat), k ≤ bs.length ∧ i = .int .i64 k ∧ Hid (StOk (t, v, es)) ∧ Hid (SoFar bs k (t, v, es)) ∧ wr.heap[w.heap.size + 2]? = some (.cells #[.int .i64 t, .int .i64 v, .slice A es.length c] 48) ∧ LogIn wr A c es ∧ Frm (w.heap.size + 3) A es.length ∧ wr.heap[w.heap.size]? = some (.cells #[.int .i64 0, .int .i64 0] 23) ∧ wr.heap[w.heap.size + 1]? = some (.cells #[.int .i64 0, .int .i64 0, .slice none 0 0] 26) ∧ Below w.heap.size w wr) (fun i _ => bs.length - (intOf i).toNat)
    case atStart => exact ⟨0, 0, 0, [], none, 0, by omega, rfl, st0_ok, SoFar.start bs, g2, ⟨RowAt.nil, Nat.le_refl _, fun _ => rfl, Nat.zero_le _⟩, fun h => absurd rfl h, g0, g1, hw3⟩
    case round =>
      obtain ⟨k, t, v, es, A, c, hk, rfl, HOK, HSF, g2, hL, hF, g0, g1, hbw⟩ := hrel
      obtain ⟨sc0, sc1, sc2, sf0, sf1, sf2, slt⟩ := box3 g2
      have slt0 := slt
      by_cases hlt : k < bs.length
      · have hs2 := fun W => slice_from a bs.length cap k hk W
        have hk0 : (0 : Int) ≤ (k : Int) := by omega
        have hk1 : (k : Int) < (bs.length : Int) := by omega
        have HG : Hid (∀ W, CellsB W a bs → Calls Try.prog 37 #[.slice (cutA a cap k) (bs.length - k) (cap - k)] W (RetGet (getF (bs.drop k)) (getN (bs.drop k)) (getE (bs.drop k)) W)) := fun W h => by
          have hl2 : (bs.drop k).length = bs.length - k := List.length_drop
          have := refGet_any (cutA a cap k) (cap - k) (bs.drop k) W (h.cut cap k hcap) (by rw [hl2]; omega) (by rw [hl2]; exact cutA_none HZ.out) (by rw [hl2]; omega)
          rwa [hl2] at this
        by_cases he : getE (bs.drop k) = 0
        · have hn := getN_pos he
          have hnl : k + getN (bs.drop k) ≤ bs.length := by have h2 : (bs.drop k).length = bs.length - k := List.length_drop; omega
          have hfl : (getF (bs.drop k)).2.length ≤ 1000000 := by have := (putE_zero (get_put he).1).2; omega
          have HST : Hid (∀ W a4 c4, CellsB W a4 (getF (bs.drop k)).2 → (getF (bs.drop k)).2.length ≤ c4 → (a4 = none → (getF (bs.drop k)).2.length = 0) → LogIn W A c es → w.heap.size + 3 ≤ W.heap.size → Calls Try.prog 38 #[.agg #[.int .i64 t, .int .i64 v, .slice A es.length c], .agg #[.int .i64 (getF (bs.drop k)).1, .slice a4 (getF (bs.drop k)).2.length c4]] W (RetSt (w.heap.size + 3) (t, v, es) (stepV (t, v, es) (getF (bs.drop k))) W)) := fun W a4 c4 h1 h2 h3 h4 h5 => refStep_any (w.heap.size + 3) (t, v, es) A c _ a4 c4 _ W h4 hF h5 HOK.out h1 h2 h3 hfl
          cases hst : stepV (t, v, es) (getF (bs.drop k)) with
          | none =>
            have HEND := Lib.hid (HSF.out.stop (readS_none he hst))
            rw [hst] at HST
            rw [he] at HG
            clear he hst hn
            generalize getN (bs.drop k) = n at HG hnl
            generalize getF (bs.drop k) = f at HG HST
            obtain ⟨K, D⟩ := f
            simp only at HST
            go_wp2_with (first
              | (go_at_call 37; refine (HG.out _ (HB.out.below hbw)).mono ?_; rintro e w4 ⟨a4, c4, rfl, hcells, hnone, ⟨hle, hfar⟩, hd4⟩; have hv4 := below1 w4 (.cells #[.int .i64 K, .slice a4 D.length c4] 77); have hd4' := hd4.trans (hv4.mono hd4.size); have g2b := blk_keep hd4' g2; have hL4 := hL.below hd4'; have g0b := blk_keep hd4' g0; have g1b := blk_keep hd4' g1; have hb4 := hbw.trans (hd4'.mono hbw.size); have hb4s := Nat.le_trans (Nat.succ_le_of_lt slt0) hd4'.size; have hcells4 := hcells.below hv4; obtain ⟨fc0, fc1, ff0, ff1, flt⟩ := box2 (blk_new w4 (.cells #[.int .i64 K, .slice a4 D.length c4] 77)); obtain ⟨sc0, sc1, sc2, sf0, sf1, sf2, slt⟩ := box3 g2b)
              | (go_at_call 38; refine (HST.out _ a4 c4 hcells4 hle hnone hL4 hb4s).mono ?_; rintro e w5 ⟨A5, c5, rfl, hl5, hf5, hd5⟩; simp only [Option.getD_none] at hl5 hf5; have hd5' := hd5.trans ((below1 w5 (.cells #[.int .i64 t, .int .i64 v, .slice A5 es.length c5] 48)).mono hd5.size); have g05 := blk_keep hd5' g0b; have g15 := blk_keep hd5' g1b; have g25 := blk_keep hd5' g2b; have hb5 := hb4.trans (hd5'.mono hb4.size); have hL5 := hL4.below hd5'; obtain ⟨sc0, sc1, sc2, sf0, sf1, sf2, slt⟩ := box3 g25))
            go_meet
            exact ⟨k, t, v, es, A, c, rfl, HEND, g25, hL5, hF, g05, g15, hb5⟩
          | some s' =>
            obtain ⟨t', v', es'⟩ := s'
            have HOK2 := Lib.hid (stepV_ok HOK.out hst)
            have HSF2 := Lib.hid (HSF.out.next he hst)
            rw [hst] at HST
            rw [he] at HG
            have hn0 : 0 < getN (bs.drop k) := by omega
            clear he hst hn
            generalize getN (bs.drop k) = n at HG hnl HSF2 hn0
            generalize getF (bs.drop k) = f at HG HST
            obtain ⟨K, D⟩ := f
            simp only at HST
            have hwr := wrap_id (x := (k : Int) + (n : Int)) (by omega) (by omega)
            go_wp2_with (first
              | (go_at_call 37; refine (HG.out _ (HB.out.below hbw)).mono ?_; rintro e w4 ⟨a4, c4, rfl, hcells, hnone, ⟨hle, hfar⟩, hd4⟩; have hv4 := below1 w4 (.cells #[.int .i64 K, .slice a4 D.length c4] 77); have hd4' := hd4.trans (hv4.mono hd4.size); have g2b := blk_keep hd4' g2; have hL4 := hL.below hd4'; have g0b := blk_keep hd4' g0; have g1b := blk_keep hd4' g1; have hb4 := hbw.trans (hd4'.mono hbw.size); have hb4s := Nat.le_trans (Nat.succ_le_of_lt slt0) hd4'.size; have hcells4 := hcells.below hv4; obtain ⟨fc0, fc1, ff0, ff1, flt⟩ := box2 (blk_new w4 (.cells #[.int .i64 K, .slice a4 D.length c4] 77)); obtain ⟨sc0, sc1, sc2, sf0, sf1, sf2, slt⟩ := box3 g2b)
              | (go_at_call 38; refine (HST.out _ a4 c4 hcells4 hle hnone hL4 hb4s).mono ?_; rintro e w5 ⟨A5, c5, rfl, hl5, hf5, hd5⟩; simp only [Option.getD_some] at hl5 hf5; have hv5 := below1 w5 (.cells #[.int .i64 t', .int .i64 v', .slice A5 es'.length c5] 48); have hd5' := hd5.trans (hv5.mono hd5.size); have g05 := blk_keep hd5' g0b; have g15 := blk_keep hd5' g1b; have g25 := blk_keep hd5' g2b; have hb5 := hb4.trans (hd5'.mono hb4.size); have hL5 := hl5.below hv5; obtain ⟨sc0, sc1, sc2, sf0, sf1, sf2, slt⟩ := box3 g25; obtain ⟨tc0, tc1, tc2, tf0, tf1, tf2, tlt⟩ := box3 (blk_new w5 (.cells #[.int .i64 t', .int .i64 v', .slice A5 es'.length c5] 48))))
            exact ⟨⟨k + n, t', v', es', A5, c5, hnl, by simp, HOK2, HSF2, set3_blk g25 _ _ _, hL5.set3Frm hf5 (by omega) _ _ _, hf5, set3_far g05 (by omega) _ _ _, set3_far g15 (by omega) _ _ _, set3_below hb5 (by omega) _ _ _⟩, by simp [intOf]; omega⟩
        · have hne : (getE (bs.drop k) != 0) = true := by simpa using he
          have HEND := Lib.hid (HSF.out.stop (readS_err he))
          clear he
          generalize getE (bs.drop k) = E at HG hne
          generalize getN (bs.drop k) = n at HG
          generalize getF (bs.drop k) = f at HG
          obtain ⟨K, D⟩ := f
          go_wp2_with (go_at_call 37; refine (HG.out _ (HB.out.below hbw)).mono ?_; rintro e w4 ⟨a4, c4, rfl, hcells, hnone, ⟨hle, hfar⟩, hd4⟩; have hv4 := below1 w4 (.cells #[.int .i64 K, .slice a4 D.length c4] 77); have hd4' := hd4.trans (hv4.mono hd4.size); have g2b := blk_keep hd4' g2; have hL4 := hL.below hd4'; have g0b := blk_keep hd4' g0; have g1b := blk_keep hd4' g1; have hb4 := hbw.trans (hd4'.mono hbw.size); have hb4s := Nat.le_trans (Nat.succ_le_of_lt slt0) hd4'.size; have hcells4 := hcells.below hv4; obtain ⟨fc0, fc1, ff0, ff1, flt⟩ := box2 (blk_new w4 (.cells #[.int .i64 K, .slice a4 D.length c4] 77)); obtain ⟨sc0, sc1, sc2, sf0, sf1, sf2, slt⟩ := box3 g2b)
          go_meet
          exact ⟨k, t, v, es, A, c, rfl, HEND, g2b, hL4, hF, g0b, g1b, hb4⟩
      · have hkb : k = bs.length := by omega
        have HEND := Lib.hid (HSF.out.stop (by rw [List.drop_of_length_le (by omega)]; exact readS_nil))
        have hk1 : (bs.length : Int) ≤ (k : Int) := by omega
        go_wp2
        go_meet
        exact ⟨k, t, v, es, A, c, rfl, HEND, g2, hL, hF, g0, g1, hbw⟩
  case rest =>
    obtain ⟨k, t, v, es, A, c, rfl, HR, g2, hL, hF, g0, g1, hbw⟩ := hcut
    obtain ⟨s0, s1, s2, _, _, _, slt⟩ := box3 g2
    obtain ⟨b0, b1, bf0, bf1, blt⟩ := box2 g0
    obtain ⟨l0, l1, l2, lf0, lf1, lf2, llt⟩ := box3 g1
    obtain ⟨p0, p1, p2, _⟩ := box3 (set2_far g2 (show w.heap.size + 2 ≠ w.heap.size by omega) (.int .i64 t) (.int .i64 v))
    obtain ⟨q0, q1, q2, _⟩ := box3 (set3_far (set2_far g2 (show w.heap.size + 2 ≠ w.heap.size by omega) (.int .i64 t) (.int .i64 v)) (show w.heap.size + 2 ≠ w.heap.size + 1 by omega) (.int .i64 0) (.int .i64 0) (.slice A es.length c))
    go_wp2
    go_region_held3 (fun W => W.cell? ⟨w.heap.size + 2, 0, none⟩ = some (.int .i64 t) ∧ W.cell? ⟨w.heap.size + 2, 1, none⟩ = some (.int .i64 v) ∧ W.cell? ⟨w.heap.size + 2, 2, none⟩ = some (.slice A es.length c)) (first | with_reducible exact ⟨s0, s1, s2⟩ | with_reducible exact ⟨p0, p1, p2⟩ | with_reducible exact ⟨q0, q1, q2⟩ | go_keep) (fail)
    all_goals go_wp2
    all_goals (
      obtain ⟨e0, e1, _⟩ := box2 (set3_far (set2_blk g0 (.int .i64 t) (.int .i64 v)) (show w.heap.size ≠ w.heap.size + 1 by omega) (.int .i64 0) (.int .i64 0) (.slice A es.length c))
      obtain ⟨r0, r1, r2, _⟩ := box3 (set3_blk (set2_far g1 (show w.heap.size + 1 ≠ w.heap.size by omega) (.int .i64 t) (.int .i64 v)) (.int .i64 0) (.int .i64 0) (.slice A es.length c))
      refine bodyPost_ret (v := .tuple #[ballotV t v, logV 0 0 A es.length c, .int .i64 k]) (by simp [results, Try.results23, go_sem, e0, e1, r0, r1, r2, ballotV, logV]) rfl ?_
      rw [HR.out]
      exact ⟨A, c, rfl, ((hL.set2Frm hF (by omega) _ _).set3Frm hF (by omega) _ _ _).below (below0 _).drew, fun h b o ha => by have := hF h b o ha; omega, (set3_below (set2_below hbw (Nat.le_refl _) _ _) (by omega) _ _ _).drew⟩)
end Go.Proofs.Ytnbljcbfnplbaaa
