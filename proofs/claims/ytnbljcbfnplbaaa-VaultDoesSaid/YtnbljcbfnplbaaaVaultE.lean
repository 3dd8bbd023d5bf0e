/-
  The walk of what records keep.
-/
import Derived.Test.YtnbljcbfnplbaaaVaultA
import Derived.Test.YtnbljcbfnplbaaaBF
import Derived.Test.YtnbljcbfnplbaaaVaultMath
import Derived.Test.YtnbljcbfnplbaaaBA
namespace Go.Proofs.Ytnbljcbfnplbaaa
open Go.RowKit
set_option linter.unusedVariables false
/-- What records keep, and how many bytes of them. -/
def RetRead (r : St × Nat) (w : World) (en : Ending) (w' : World) : Prop := ∃ A c, en = .returned (.tuple #[.agg #[.int .i64 r.1.1, .int .i64 r.1.2.1, .slice A r.1.2.2.length c], .int .i64 r.2]) ∧ w'.ownsRow w.heap.size 41 7 (.slice A r.1.2.2.length c) r.1.2.2.length (ensV r.1.2.2) ∧ Below w.heap.size w w'
/-- So far: read and left. -/
def SoFar (bs : List UInt8) (k : Nat) (s : St) : Prop := readV bs = ((readS (bs.drop k) s).1, k + (readS (bs.drop k) s).2)
theorem SoFar.start (bs : List UInt8) : SoFar bs 0 st0 := by unfold SoFar readV; simp
theorem SoFar.stop {bs : List UInt8} {k : Nat} {s : St} (h : SoFar bs k s) (h1 : readS (bs.drop k) s = (s, 0)) : readV bs = (s, k) := by rw [h, h1]; rfl
theorem SoFar.next {bs : List UInt8} {k : Nat} {s s' : St} (h : SoFar bs k s) (he : getE (bs.drop k) = 0) (hs : stepV s (getF (bs.drop k)) = some s') : SoFar bs (k + getN (bs.drop k)) s' := by
  unfold SoFar at h ⊢
  rw [h, readS_some he hs, List.drop_drop]
  simp only [Nat.add_assoc]
theorem blk_keep1 {w w' : World} {o : Obj} {n : Nat} (h : Below (n + 1) w w') (g : w.heap[n]? = some o) : w'.heap[n]? = some o := by rw [h.block n (Nat.lt_succ_self n)]; exact g
set_option maxRecDepth 100000 in
set_option maxHeartbeats 12800000 in
theorem read_any (a : Option Addr) (cap : Nat) (bs : List UInt8) (w : World) (hb : CellsB w a bs) (hcap : bs.length ≤ cap) (hl : bs.length ≤ 900000) :
    Calls Try.prog 32 #[.slice a bs.length cap] w (RetRead (readV bs) w) := by
  have HB := Lib.hid hb
  go_enter Try.func32, Try.ntmps32
  go_wp2
  refine scope_fwd 0 rfl ?_
  go_wp2
  go_step3
  refine (by assumption : ∀ (a : Act) (w : World), _ → _) _ _ ?_
  go_wp2
  go_loopw [5] (fun i wr => ∃ (k : Nat) (t v : Int) (es : List En) (A : Option Addr) (c : Nat), k ≤ bs.length ∧ i = .int .i64 k ∧ Hid (StOk (t, v, es)) ∧ Hid (SoFar bs k (t, v, es)) ∧ wr.heap[w.heap.size + 1]? = some (.cells #[.int .i64 t, .int .i64 v, .slice A es.length c] 61) ∧ wr.ownsRow (w.heap.size + 2) 41 7 (.slice A es.length c) es.length (ensV es) ∧ wr.heap[w.heap.size]? = some (.cells #[.int .i64 0, .int .i64 0, .slice none 0 0] 61) ∧ Below w.heap.size w wr) (fun i _ => bs.length - (intOf i).toNat)
  case atStart => exact ⟨0, 0, 0, [], none, 0, by omega, rfl, st0_ok, SoFar.start bs, alloc2_snd w _ _, World.ownsRow_nil _ _ _ _, alloc2_fst w _ _, below2 w _ _⟩
  case round =>
    obtain ⟨k, t, v, es, A, c, hk, rfl, HOK, HSF, g1, own1, g0, hbw⟩ := hrel
    obtain ⟨sc0, sc1, sc2, sf0, sf1, sf2, slt⟩ := box3 g1
    obtain ⟨zc0, zc1, zc2, zf0, zf1, zf2, zlt⟩ := box3 g0
    have slt0 := slt
    by_cases hlt : k < bs.length
    · have hs2 := fun W => slice_from a bs.length cap k hk W
      have hk0 : (0 : Int) ≤ (k : Int) := by omega
      have hk1 : (k : Int) < (bs.length : Int) := by omega
      have HG : Hid (∀ W, CellsB W a bs → Calls Try.prog 47 #[.slice (cutA a cap k) (bs.length - k) (cap - k)] W (RetGet (getF (bs.drop k)) (getN (bs.drop k)) (getE (bs.drop k)) W)) := fun W h => by
        have hl2 : (bs.drop k).length = bs.length - k := List.length_drop
        have := get_any (cutA a cap k) (cap - k) (bs.drop k) W (h.cut cap k hcap) (by rw [hl2]; omega) (by rw [hl2]; omega)
        rwa [hl2] at this
      by_cases he : getE (bs.drop k) = 0
      · have hn := getN_pos he
        have hnl : k + getN (bs.drop k) ≤ bs.length := by have h2 : (bs.drop k).length = bs.length - k := List.length_drop; omega
        have hfl : (getF (bs.drop k)).2.length ≤ 1000000 := by have := (putE_zero (get_put he).1).2; omega
        have HST : Hid (∀ W a4 c4, CellsB W a4 (getF (bs.drop k)).2 → (getF (bs.drop k)).2.length ≤ c4 → (a4 = none → (getF (bs.drop k)).2.length = 0) → StAt W (w.heap.size + 1) (w.heap.size + 2) (t, v, es) → w.heap.size + 2 ≤ W.heap.size → Calls Try.prog 48 #[.pointer (some ⟨w.heap.size + 1, 0, none⟩), .agg #[.int .i64 (getF (bs.drop k)).1, .slice a4 (getF (bs.drop k)).2.length c4]] W (RetStep (w.heap.size + 1) (w.heap.size + 2) (w.heap.size + 1) (t, v, es) (stepV (t, v, es) (getF (bs.drop k))) W)) := fun W a4 c4 h1 h2 h3 h4 h5 => vstep_any _ _ _ _ _ _ _ _ W h4 (by omega) (by omega) h5 HOK.out h1 h2 h3 hfl
        cases hst : stepV (t, v, es) (getF (bs.drop k)) with
        | none =>
          have HEND := Lib.hid (HSF.out.stop (readS_none he hst))
          rw [hst] at HST
          rw [he] at HG
          clear he hst hn
          generalize getN (bs.drop k) = n at HG hnl
          generalize getF (bs.drop k) = f at HG HST
          obtain ⟨K, D⟩ := f
          simp only at HST
          go_wp2_with (first
            | (go_at_call 47; refine (HG.out _ (HB.out.below hbw)).mono ?_; rintro e w4 ⟨a4, c4, rfl, hcells, hnone, ⟨hle, hfar⟩, hd4⟩; have hv4 := below1 w4 (.cells #[.int .i64 K, .slice a4 D.length c4] 77); have hd4' := hd4.trans (hv4.mono hd4.size); have g1b := blk_keep hd4' g1; have own1b := own_below own1 hd4'; have g0b := blk_keep hd4' g0; have hb4 := hbw.trans (hd4'.mono hbw.size); have hb4s := Nat.le_trans (Nat.succ_le_of_lt slt0) hd4'.size; have hcells4 := hcells.below hv4; obtain ⟨fc0, fc1, ff0, ff1, flt⟩ := box2 (blk_new w4 (.cells #[.int .i64 K, .slice a4 D.length c4] 77)); obtain ⟨sc0, sc1, sc2, sf0, sf1, sf2, slt⟩ := box3 g1b; obtain ⟨zc0, zc1, zc2, zf0, zf1, zf2, zlt⟩ := box3 g0b)
            | (go_at_call 48; refine (HST.out _ a4 c4 hcells4 hle hnone ⟨A, c, g1b, own1b⟩ hb4s).mono ?_; rintro e w5 ⟨rfl, ⟨A5, c5, g15, own5⟩, hd5⟩; simp only [Option.getD_none] at g15 own5; have g05 := blk_keep1 hd5 g0b; have hb5 := hb4.trans (hd5.mono (Nat.le_succ _)); obtain ⟨sc0, sc1, sc2, sf0, sf1, sf2, slt⟩ := box3 g15; obtain ⟨zc0, zc1, zc2, zf0, zf1, zf2, zlt⟩ := box3 g05))
          simp only [Exit.jump]
          obtain ⟨q0, q1, q2, _⟩ := box3 (set3_blk g05 (.int .i64 t) (.int .i64 v) (.slice A5 es.length c5))
          refine bodyPost_ret (v := .tuple #[.agg #[.int .i64 t, .int .i64 v, .slice A5 es.length c5], .int .i64 k]) (by simp [results, Try.results32, go_sem, q0, q1, q2]) rfl ?_
          rw [HEND.out]
          exact ⟨A5, c5, rfl, own_base (own_set3 own5 (by omega) (.int .i64 t) (.int .i64 v) (.slice A5 es.length c5)) (by omega), set3_below hb5 (Nat.le_refl _) _ _ _⟩
        | some s' =>
          obtain ⟨t', v', es'⟩ := s'
          have HOK2 := Lib.hid (stepV_ok HOK.out hst)
          have HSF2 := Lib.hid (HSF.out.next he hst)
          rw [hst] at HST
          rw [he] at HG
          have hn0 : 0 < getN (bs.drop k) := by omega
          clear he hst hn
          generalize getN (bs.drop k) = n at HG hnl HSF2 hn0
          generalize getF (bs.drop k) = f at HG HST
          obtain ⟨K, D⟩ := f
          simp only at HST
          have hwr := wrap_id (x := (k : Int) + (n : Int)) (by omega) (by omega)
          go_wp2_with (first
            | (go_at_call 47; refine (HG.out _ (HB.out.below hbw)).mono ?_; rintro e w4 ⟨a4, c4, rfl, hcells, hnone, ⟨hle, hfar⟩, hd4⟩; have hv4 := below1 w4 (.cells #[.int .i64 K, .slice a4 D.length c4] 77); have hd4' := hd4.trans (hv4.mono hd4.size); have g1b := blk_keep hd4' g1; have own1b := own_below own1 hd4'; have g0b := blk_keep hd4' g0; have hb4 := hbw.trans (hd4'.mono hbw.size); have hb4s := Nat.le_trans (Nat.succ_le_of_lt slt0) hd4'.size; have hcells4 := hcells.below hv4; obtain ⟨fc0, fc1, ff0, ff1, flt⟩ := box2 (blk_new w4 (.cells #[.int .i64 K, .slice a4 D.length c4] 77)); obtain ⟨sc0, sc1, sc2, sf0, sf1, sf2, slt⟩ := box3 g1b; obtain ⟨zc0, zc1, zc2, zf0, zf1, zf2, zlt⟩ := box3 g0b)
            | (go_at_call 48; refine (HST.out _ a4 c4 hcells4 hle hnone ⟨A, c, g1b, own1b⟩ hb4s).mono ?_; rintro e w5 ⟨rfl, ⟨A5, c5, g15, own5⟩, hd5⟩; simp only [Option.getD_some] at g15 own5; have g05 := blk_keep1 hd5 g0b; have hb5 := hb4.trans (hd5.mono (Nat.le_succ _)); obtain ⟨sc0, sc1, sc2, sf0, sf1, sf2, slt⟩ := box3 g15; obtain ⟨zc0, zc1, zc2, zf0, zf1, zf2, zlt⟩ := box3 g05))
          exact ⟨⟨k + n, t', v', es', A5, c5, hnl, by simp, HOK2, HSF2, g15, own5, g05, hb5⟩, by simp [intOf]; omega⟩
      · have hne : (getE (bs.drop k) != 0) = true := by simpa using he
        have HEND := Lib.hid (HSF.out.stop (readS_err he))
        clear he
        generalize getE (bs.drop k) = E at HG hne
        generalize getN (bs.drop k) = n at HG
        generalize getF (bs.drop k) = f at HG
        obtain ⟨K, D⟩ := f
        go_wp2_with (go_at_call 47; refine (HG.out _ (HB.out.below hbw)).mono ?_; rintro e w4 ⟨a4, c4, rfl, hcells, hnone, ⟨hle, hfar⟩, hd4⟩; have hv4 := below1 w4 (.cells #[.int .i64 K, .slice a4 D.length c4] 77); have hd4' := hd4.trans (hv4.mono hd4.size); have g1b := blk_keep hd4' g1; have own1b := own_below own1 hd4'; have g0b := blk_keep hd4' g0; have hb4 := hbw.trans (hd4'.mono hbw.size); have hcells4 := hcells.below hv4; obtain ⟨fc0, fc1, ff0, ff1, flt⟩ := box2 (blk_new w4 (.cells #[.int .i64 K, .slice a4 D.length c4] 77)); obtain ⟨sc0, sc1, sc2, sf0, sf1, sf2, slt⟩ := box3 g1b; obtain ⟨zc0, zc1, zc2, zf0, zf1, zf2, zlt⟩ := box3 g0b)
        simp only [Exit.jump]
        obtain ⟨q0, q1, q2, _⟩ := box3 (set3_blk g0b (.int .i64 t) (.int .i64 v) (.slice A es.length c))
        refine bodyPost_ret (v := .tuple #[.agg #[.int .i64 t, .int .i64 v, .slice A es.length c], .int .i64 k]) (by simp [results, Try.results32, go_sem, q0, q1, q2]) rfl ?_
        rw [HEND.out]
        exact ⟨A, c, rfl, own_base (own_set3 own1b (by omega) (.int .i64 t) (.int .i64 v) (.slice A es.length c)) (by omega), set3_below hb4 (Nat.le_refl _) _ _ _⟩
    · have hkb : k = bs.length := by omega
      have HEND := Lib.hid (HSF.out.stop (by rw [List.drop_of_length_le (by omega)]; exact readS_nil))
      have hk1 : (bs.length : Int) ≤ (k : Int) := by omega
      go_wp2
      simp only [Exit.jump]
      obtain ⟨q0, q1, q2, _⟩ := box3 (set3_blk g0 (.int .i64 t) (.int .i64 v) (.slice A es.length c))
      refine bodyPost_ret (v := .tuple #[.agg #[.int .i64 t, .int .i64 v, .slice A es.length c], .int .i64 k]) (by simp [results, Try.results32, go_sem, q0, q1, q2]) rfl ?_
      rw [HEND.out]
      exact ⟨A, c, rfl, own_base (own_set3 own1 (by omega) (.int .i64 t) (.int .i64 v) (.slice A es.length c)) (by omega), set3_below hbw (Nat.le_refl _) _ _ _⟩
end Go.Proofs.Ytnbljcbfnplbaaa
