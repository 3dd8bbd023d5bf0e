/-
  The document's Sync and Crash.
-/
import Derived.Test.YtnbljcbfnplbaaaVaultZ
import Derived.Test.YtnbljcbfnplbaaaVaultW
namespace Go.Proofs.Ytnbljcbfnplbaaa
open Go.RowKit
set_option linter.unusedVariables false
set_option maxHeartbeats 1600000 in
theorem refSync_any (R lo hi : Nat) (x : Vt) (w : World) (h : RvAt w R lo hi x) (hlo : lo ≤ R) (hR : R < hi) (hl : x.1.length ≤ 900000) : Calls Try.prog 18 #[.pointer (some ⟨R, 0, none⟩)] w fun e w' => e = .returned (.tuple #[]) ∧ RvAt w' R lo hi (syncV x) ∧ Only R w w' := by
  obtain ⟨D, cd, A, c, g, p1, p2, p3, p4, p5, p6⟩ := h
  obtain ⟨bs, n, t, v, es⟩ := x
  simp only at g p1 p2 p3 p4 p5 p6
  obtain ⟨c0, c1, c2, c3, c4, f0, f1, f2, f3, f4, hlt⟩ := box5 g
  have P1 := Lib.hid p1
  have P2 := Lib.hid p2
  have P5 := Lib.hid p5
  clear p1 p2 p5
  unfold syncV
  go_enter Try.func18, Try.ntmps18
  go_wp2
  have hO := (Only.refl R w).setCell 1 (.int .i64 (bs.length : Int))
  refine bodyPost_end (results_none rfl _ _ _) rfl ?_
  exact ⟨rfl, ⟨D, cd, A, c, blk_set (i := 1) g _, bytes_out P1.out hO p4 hlo hR, P2.out, p3, p4, P5.out.out hO p6 hlo hR, p6⟩, hO⟩
set_option maxRecDepth 100000 in
set_option maxHeartbeats 12800000 in
theorem refCrash_any (R lo hi : Nat) (x : Vt) (keep : Int) (w : World) (h : RvAt w R lo hi x) (hlo : lo ≤ R) (hR : R < hi) (hhi : hi ≤ w.heap.size) (hx : VtOk x) (hl : x.1.length ≤ 900000) : Calls Try.prog 19 #[.pointer (some ⟨R, 0, none⟩), .int .i64 keep] w fun e w' => e = .returned (.tuple #[]) ∧ RvAt w' R lo hi (crashV x keep) ∧ Only R w w' := by
  have hcn := crashN_le hx.sync keep
  obtain ⟨D, cd, A, c, g, p1, p2, p3, p4, p5, p6⟩ := h
  obtain ⟨bs, n, t, v, es⟩ := x
  have hsy := hx.sync
  simp only at g p1 p2 p3 p4 p5 p6 hl hcn hsy
  unfold crashV
  simp only
  obtain ⟨lf, hlf⟩ : ∃ lf : Nat, (lf : Int) = max keep 0 % ((bs.length : Int) - (n : Int) + 1) := ⟨(max keep 0 % ((bs.length : Int) - (n : Int) + 1)).toNat, by have : 0 ≤ max keep 0 % ((bs.length : Int) - (n : Int) + 1) := Int.emod_nonneg _ (by omega); omega⟩
  have hm : crashN (bs, n, t, v, es) keep = n + lf := by show n + (max keep 0 % ((bs.length : Int) - (n : Int) + 1)).toNat = _; omega
  rw [hm] at hcn ⊢
  clear hm
  have hml : (bs.take (n + lf)).length = n + lf := by rw [List.length_take]; omega
  have HR : Hid (∀ W, CellsB W D bs → Calls Try.prog 23 #[.slice D (n + lf) cd] W (RetReadR (readV (bs.take (n + lf))) W)) := fun W h => by
    have := refRead_any D cd (bs.take (n + lf)) W (h.take (n + lf)) (fun h => by have := p2 h; omega) (by omega) (by omega)
    rwa [hml] at this
  have hr2 := readV_le (bs.take (n + lf))
  rw [hml] at hr2
  have htt : (bs.take (n + lf)).take (readV (bs.take (n + lf))).2 = bs.take (readV (bs.take (n + lf))).2 := by rw [List.take_take, Nat.min_eq_left hr2]
  generalize readV (bs.take (n + lf)) = r at HR hr2 htt ⊢
  obtain ⟨⟨t', v', es'⟩, k⟩ := r
  simp only at hr2 htt ⊢
  clear htt
  have hkl : (bs.take k).length = k := by rw [List.length_take]; omega
  have HKL := Lib.hid hkl
  have P1 := Lib.hid p1
  have P2 := Lib.hid p2
  have P5 := Lib.hid p5
  have HLF := Lib.hid hlf
  clear p1 p2 p5 hkl hml hx
  have hlfn : lf ≤ bs.length - n := by omega
  have hkl2 : k ≤ bs.length := by omega
  obtain ⟨c0, c1, c2, c3, c4, f0, f1, f2, f3, f4, hlt⟩ := box5 g
  clear hlf
  go_enter Try.func19, Try.ntmps19
  go_upto_if 9 with fail
  go_cut [4] (fun d wx => d = .int .i64 (lf : Nat) ∧ ∃ m, wx = w.drewN m)
  case first =>
    by_cases hk : 0 < keep
    · have hmx : max keep 0 = keep := by omega
      have hb1 : -9223372036854775808 ≤ (bs.length : Int) - (n : Int) ∧ (bs.length : Int) - (n : Int) ≤ 9223372036854775807 := by omega
      have hb2 : -9223372036854775808 ≤ (bs.length : Int) - (n : Int) + 1 ∧ (bs.length : Int) - (n : Int) + 1 ≤ 9223372036854775807 := by omega
      have hw1 := wrap_id hb1.1 hb1.2
      have hw2 := wrap_id hb2.1 hb2.2
      have hne : (bs.length : Int) - (n : Int) + 1 ≠ 0 := by omega
      go_wp2
      go_quiet (fail)
      go_wp2
      go_meet
      exact ⟨by rw [HLF.out, hmx], nq, rfl⟩
    · have hk2 : keep ≤ 0 := by omega
      have hz : (lf : Int) = 0 := by rw [HLF.out, show max keep 0 = 0 by omega, Int.zero_emod]
      have HZ := Lib.hid hz
      clear hz
      go_wp2
      go_meet
      exact ⟨by rw [HZ.out], 0, rfl⟩
  case rest =>
    obtain ⟨rfl, m, rfl⟩ := hcut
    clear c0 c1 c2 c3 c4 f0 f1 f2 f3 f4 hlt
    have gm := blk_many g m
    have hwm := Below.many (below0 w) m
    generalize w.drewN m = W at *
    obtain ⟨c0, c1, c2, c3, c4, f0, f1, f2, f3, f4, hlt⟩ := box5 gm
    have hb1 : -9223372036854775808 ≤ (n : Int) + (lf : Int) ∧ (n : Int) + (lf : Int) ≤ 9223372036854775807 := by omega
    have hw1 := wrap_id hb1.1 hb1.2
    have hs1 : ∀ Z, (Instr.slice 46 (.slice D bs.length cd) none (some (.int .i64 ((n : Int) + (lf : Int)))) none).run Try.prog Z = .ok (.slice D (n + lf) cd) Z := fun Z => by
      have := slice_to D bs.length cd (n + lf) (by omega) Z
      rwa [Int.natCast_add] at this
    have HS1 := Lib.hid hs1
    have hs2 : ∀ Z, (Instr.slice 46 (.slice D bs.length cd) none (some (.int .i64 (k : Int))) none).run Try.prog Z = .ok (.slice D k cd) Z := fun Z => slice_to D bs.length cd k (by omega) Z
    have HS2 := Lib.hid hs2
    clear hs1 hs2
    have hs1 := HS1.out
    have hSk : ∀ Z, Below (R + 1) W Z → Z.cell? ⟨R, 0, none⟩ = some (.slice D bs.length cd) ∧ Z.cell? ⟨R, 1, none⟩ = some (.int .i64 (n : Nat)) ∧ (Instr.slice 46 (.slice D bs.length cd) none (some (.int .i64 ((n : Int) + (lf : Int)))) none).run Try.prog Z = .ok (.slice D (n + lf) cd) Z := fun Z h => ⟨((bcell h).1 R 0 (Nat.lt_succ_self R)).trans c0, ((bcell h).1 R 1 (Nat.lt_succ_self R)).trans c1, HS1.out Z⟩
    have hRW : R + 1 ≤ W.heap.size := hlt
    go_upto_region 3 with fail
    go_cut [5, 6, 7] (fun p q z wx => ∃ a3 q3 X Y, p = .pointer (some ⟨X, 0, none⟩) ∧ q = .pointer (some ⟨Y, 0, none⟩) ∧ z = .int .i64 (k : Nat) ∧ wx.heap[X]? = some (.cells #[.int .i64 t', .int .i64 v'] 23) ∧ wx.heap[Y]? = some (.cells #[.int .i64 0, .int .i64 0, .slice a3 es'.length q3] 26) ∧ w.heap.size ≤ X ∧ w.heap.size ≤ Y ∧ LogIn wx a3 q3 es' ∧ Frm w.heap.size a3 es'.length ∧ Below w.heap.size w wx)
    case first =>
      go_region_held3 (fun Z => Z.cell? ⟨R, 0, none⟩ = some (.slice D bs.length cd) ∧ Z.cell? ⟨R, 1, none⟩ = some (.int .i64 (n : Nat)) ∧ (Instr.slice 46 (.slice D bs.length cd) none (some (.int .i64 ((n : Int) + (lf : Int)))) none).run Try.prog Z = .ok (.slice D (n + lf) cd) Z) ((refine hSk _ ?_; repeat' (first | exact hw3R | exact Below.refl _ _ | refine Below.drew ?_ | refine Below.setCell ?_ ?_ _ | refine Below.alloc ?_ ?_ _ | omega | (simp; omega)))) ((go_at_call 23; refine (HR.out _ (P1.out.below (by first | exact hwm.drew | exact (hwm.alloc hwm.size _).drew | exact ((hwm.alloc hwm.size _).alloc (hwm.alloc hwm.size _).size _).drew))).mono ?_; rintro e w3 ⟨a3, q3, rfl, hl3, hf3, hb3⟩; simp only at hl3 hf3; have hw3 : Below W.heap.size W w3 := (by first | exact (below0 W).drew.trans hb3 | exact (below1 W _).drew.trans (hb3.mono (below1 W _).size) | exact (below2 W _ _).drew.trans (hb3.mono (below2 W _ _).size)); have g3 := blk_keep hw3 gm; have hW3 := hw3.size; have hw3R := hw3.mono hRW; obtain ⟨d0, d1, d2, d3, d4, _, _, _, _, _, dlt⟩ := box5 g3; (first | (have gb3 := blk_keep hb3 (blk_drawn (alloc2_fst W (.cells #[.int .i64 0, .int .i64 0] 23) (.cells #[.int .i64 0, .int .i64 0, .slice none 0 0] 26))); have hf4 : Frm (W.heap.size + 2) a3 es'.length := (by intro h b o ha; have h5 := hf3 h b o ha; have h6 : ((W.alloc (.cells #[.int .i64 0, .int .i64 0] 23)).alloc (.cells #[.int .i64 0, .int .i64 0, .slice none 0 0] 26)).heap.size = W.heap.size + 2 := (by simp); exact Nat.le_trans (Nat.le_of_eq h6.symm) h5); have gl3 := blk_keep hb3 (blk_drawn (alloc2_snd W (.cells #[.int .i64 0, .int .i64 0] 23) (.cells #[.int .i64 0, .int .i64 0, .slice none 0 0] 26))); obtain ⟨xb0, xb1, xbf0, xbf1, xblt⟩ := box2 gb3; obtain ⟨xl0, xl1, xl2, xlf0, xlf1, xlf2, xllt⟩ := box3 gl3) | (have gl3 := blk_keep hb3 (blk_drawn (alloc2_fst W (.cells #[.int .i64 0, .int .i64 0, .slice none 0 0] 26) (.cells #[.int .i64 0, .int .i64 0] 23))); have hf4 : Frm (W.heap.size + 2) a3 es'.length := (by intro h b o ha; have h5 := hf3 h b o ha; have h6 : ((W.alloc (.cells #[.int .i64 0, .int .i64 0, .slice none 0 0] 26)).alloc (.cells #[.int .i64 0, .int .i64 0] 23)).heap.size = W.heap.size + 2 := (by simp); exact Nat.le_trans (Nat.le_of_eq h6.symm) h5); have gb3 := blk_keep hb3 (blk_drawn (alloc2_snd W (.cells #[.int .i64 0, .int .i64 0, .slice none 0 0] 26) (.cells #[.int .i64 0, .int .i64 0] 23))); obtain ⟨xb0, xb1, xbf0, xbf1, xblt⟩ := box2 gb3; obtain ⟨xl0, xl1, xl2, xlf0, xlf1, xlf2, xllt⟩ := box3 gl3) | (have gb3 := blk_keep hb3 (blk_drawn (blk_new W (.cells #[.int .i64 0, .int .i64 0] 23))); have hf4 : Frm (W.heap.size + 1) a3 es'.length := (by intro h b o ha; have h5 := hf3 h b o ha; have h6 : (W.alloc (.cells #[.int .i64 0, .int .i64 0] 23)).heap.size = W.heap.size + 1 := (by simp); exact Nat.le_trans (Nat.le_of_eq h6.symm) h5); obtain ⟨xb0, xb1, xbf0, xbf1, xblt⟩ := box2 gb3) | (have gl3 := blk_keep hb3 (blk_drawn (blk_new W (.cells #[.int .i64 0, .int .i64 0, .slice none 0 0] 26))); have hf4 : Frm (W.heap.size + 1) a3 es'.length := (by intro h b o ha; have h5 := hf3 h b o ha; have h6 : (W.alloc (.cells #[.int .i64 0, .int .i64 0, .slice none 0 0] 26)).heap.size = W.heap.size + 1 := (by simp); exact Nat.le_trans (Nat.le_of_eq h6.symm) h5); obtain ⟨xl0, xl1, xl2, xlf0, xlf1, xlf2, xllt⟩ := box3 gl3) | (have hf4 : Frm (W.heap.size + 0) a3 es'.length := hf3))))
      all_goals go_wp2
      all_goals (
        have hww := hwm.trans (hw3.mono hwm.size)
        have hwz := hwm.size
        go_meet
        first
          | (refine ⟨a3, q3, w3.heap.size, w3.heap.size + 1, (by with_reducible rfl), (by with_reducible rfl), rfl, ?_⟩; exact ⟨alloc2_fst w3 (.cells #[.int .i64 t', .int .i64 v'] 23) (.cells #[.int .i64 0, .int .i64 0, .slice a3 es'.length q3] 26), alloc2_snd w3 (.cells #[.int .i64 t', .int .i64 v'] 23) (.cells #[.int .i64 0, .int .i64 0, .slice a3 es'.length q3] 26), by omega, by omega, hl3.below (below2 w3 _ _), (fun h b o ha => Nat.le_trans hwm.size (Nat.le_trans (Nat.le_add_right _ _) (hf4 h b o ha))), hww.trans ((below2 w3 _ _).mono hww.size)⟩)
          | (refine ⟨a3, q3, w3.heap.size + 1, w3.heap.size, (by with_reducible rfl), (by with_reducible rfl), rfl, ?_⟩; exact ⟨alloc2_snd w3 (.cells #[.int .i64 0, .int .i64 0, .slice a3 es'.length q3] 26) (.cells #[.int .i64 t', .int .i64 v'] 23), alloc2_fst w3 (.cells #[.int .i64 0, .int .i64 0, .slice a3 es'.length q3] 26) (.cells #[.int .i64 t', .int .i64 v'] 23), by omega, by omega, hl3.below (below2 w3 _ _), (fun h b o ha => Nat.le_trans hwm.size (Nat.le_trans (Nat.le_add_right _ _) (hf4 h b o ha))), hww.trans ((below2 w3 _ _).mono hww.size)⟩)
          | (refine ⟨a3, q3, W.heap.size, w3.heap.size, (by with_reducible rfl), (by with_reducible rfl), rfl, ?_⟩; exact ⟨blk_alloc (set2_blk gb3 (.int .i64 t') (.int .i64 v')) (.cells #[.int .i64 0, .int .i64 0, .slice a3 es'.length q3] 26), (by have := blk_new (set2 w3 W.heap.size (.int .i64 t') (.int .i64 v')) (.cells #[.int .i64 0, .int .i64 0, .slice a3 es'.length q3] 26); simpa using this), by omega, by omega, (hl3.set2Frm hf4 (by omega) (.int .i64 t') (.int .i64 v')).below (below1 _ _), (fun h b o ha => Nat.le_trans hwm.size (Nat.le_trans (Nat.le_add_right _ _) (hf4 h b o ha))), (set2_below hww hwm.size (.int .i64 t') (.int .i64 v')).alloc (by simp; omega) _⟩)
          | (refine ⟨a3, q3, W.heap.size, W.heap.size + 1, (by with_reducible rfl), (by with_reducible rfl), rfl, ?_⟩; exact ⟨set3_far (set2_blk gb3 (.int .i64 t') (.int .i64 v')) (by omega) (.int .i64 0) (.int .i64 0) (.slice a3 es'.length q3), set3_blk (set2_far gl3 (by omega) (.int .i64 t') (.int .i64 v')) (.int .i64 0) (.int .i64 0) (.slice a3 es'.length q3), by omega, by omega, (hl3.set2Frm hf4 (by omega) (.int .i64 t') (.int .i64 v')).set3Frm hf4 (by omega) (.int .i64 0) (.int .i64 0) (.slice a3 es'.length q3), (fun h b o ha => Nat.le_trans hwm.size (Nat.le_trans (Nat.le_add_right _ _) (hf4 h b o ha))), set3_below (set2_below hww hwm.size (.int .i64 t') (.int .i64 v')) (by omega) (.int .i64 0) (.int .i64 0) (.slice a3 es'.length q3)⟩)
          | (refine ⟨a3, q3, w3.heap.size, W.heap.size, (by with_reducible rfl), (by with_reducible rfl), rfl, ?_⟩; exact ⟨(by have := blk_new (set3 w3 W.heap.size (.int .i64 0) (.int .i64 0) (.slice a3 es'.length q3)) (.cells #[.int .i64 t', .int .i64 v'] 23); simpa using this), blk_alloc (set3_blk gl3 (.int .i64 0) (.int .i64 0) (.slice a3 es'.length q3)) (.cells #[.int .i64 t', .int .i64 v'] 23), by omega, by omega, (hl3.set3Frm hf4 (by omega) (.int .i64 0) (.int .i64 0) (.slice a3 es'.length q3)).below (below1 _ _), (fun h b o ha => Nat.le_trans hwm.size (Nat.le_trans (Nat.le_add_right _ _) (hf4 h b o ha))), (set3_below hww hwm.size (.int .i64 0) (.int .i64 0) (.slice a3 es'.length q3)).alloc (by simp; omega) _⟩)
          | (refine ⟨a3, q3, W.heap.size + 1, W.heap.size, (by with_reducible rfl), (by with_reducible rfl), rfl, ?_⟩; exact ⟨set3_far (set2_blk gb3 (.int .i64 t') (.int .i64 v')) (by omega) (.int .i64 0) (.int .i64 0) (.slice a3 es'.length q3), set3_blk (set2_far gl3 (by omega) (.int .i64 t') (.int .i64 v')) (.int .i64 0) (.int .i64 0) (.slice a3 es'.length q3), by omega, by omega, (hl3.set2Frm hf4 (by omega) (.int .i64 t') (.int .i64 v')).set3Frm hf4 (by omega) (.int .i64 0) (.int .i64 0) (.slice a3 es'.length q3), (fun h b o ha => Nat.le_trans hwm.size (Nat.le_trans (Nat.le_add_right _ _) (hf4 h b o ha))), set3_below (set2_below hww (by omega) (.int .i64 t') (.int .i64 v')) hwm.size (.int .i64 0) (.int .i64 0) (.slice a3 es'.length q3)⟩)
          | (refine ⟨a3, q3, w3.heap.size, w3.heap.size + 1, (by with_reducible rfl), (by with_reducible rfl), rfl, ?_⟩; exact ⟨alloc2_fst w3 _ _, alloc2_snd w3 _ _, by omega, by omega, hl3.below (below2 w3 _ _), (fun h b o ha => Nat.le_trans hwm.size (Nat.le_trans (Nat.le_add_right _ _) (hf4 h b o ha))), hww.trans ((below2 w3 _ _).mono hww.size)⟩))
    case rest =>
      obtain ⟨a3, q3, X, Y, rfl, rfl, rfl, gX, gY, hXw, hYw, hL3, hF3, hww⟩ := hcut
      obtain ⟨W4, hW4⟩ : ∃ Z, Z = wc := ⟨_, rfl⟩
      subst hW4
      clear c0 c1 c2 c3 c4 f0 f1 f2 f3 f4 hlt gm hwm hSk hRW hw1 hs1
      have gR := blk_keep hww g
      obtain ⟨c0, c1, c2, c3, c4, f0, f1, f2, f3, f4, hlt⟩ := box5 gR
      have hs2 := HS2.out
      have hrow : CellsB W4 D (bs.take k) := (P1.out.below hww).take k
      have hdk : D = none → k = 0 := fun h => by have := P2.out h; omega
      have hkl0 : ((bs.take k).map byteV).length = k * 1 := by rw [List.length_map, HKL.out, Nat.mul_one]
      have HK0 := Lib.hid hkl0
      clear hkl0
      go_wp2_with (at_builtin; refine wpList_append_row rfl (.const (.slice none 0 0)) (.tmp 45) rfl elemB W4.heap.size (.slice none 0 0) 0 [] (by rfl) (World.ownsRow_nil _ _ _ _) D k cd ((bs.take k).map byteV) (by rfl) HK0.out hrow (byteV_one _) (by unfold maxLen; omega) (by omega) (Nat.le_refl _) hdk ?_; intro a9 c9 w9 hown9 hg9 hat9; simp only [Nat.zero_add, List.nil_append] at hown9; rw [Nat.zero_add]; have hb9 : Below W4.heap.size W4 w9 := (below0 W4).grown hg9 (Nat.le_refl _) (fun k hk => by simp [Value.ownBlock] at hk); have gR9 := blk_keep hb9 gR; have gX9 := blk_keep hb9 gX; have gY9 := blk_keep hb9 gY; obtain ⟨d0, d1, d2, d3, d4, e0, e1, e2, e3, e4, dlt⟩ := box5 gR9; obtain ⟨x0, x1, _, _, xlt⟩ := box2 gX9; obtain ⟨y0, y1, y2, _, _, _, ylt⟩ := box3 gY9; have hXR : X ≠ R := (by omega); have hYR : Y ≠ R := (by omega))
      have hw9 := hww.trans (hb9.mono hww.size)
      have hO : Only R w (((((w9.setCell ⟨R, 0, none⟩ (.slice a9 k c9)).setCell ⟨R, 1, none⟩ (.int .i64 (k : Nat))).setCell ⟨R, 2, none⟩ (.int .i64 t')).setCell ⟨R, 3, none⟩ (.int .i64 v')).setCell ⟨R, 4, none⟩ (.slice a3 es'.length q3)) := (((((Only.of_below hw9).setCell 0 _).setCell 1 _).setCell 2 _).setCell 3 _).setCell 4 _
      have hRb : R < W4.heap.size := blk_lt gR
      have hown := ownsRow_setCell_below (ownsRow_setCell_below (ownsRow_setCell_below (ownsRow_setCell_below (ownsRow_setCell_below hown9 (a := ⟨R, 0, none⟩) hRb (.slice a9 k c9)) (a := ⟨R, 1, none⟩) hRb (.int .i64 (k : Nat))) (a := ⟨R, 2, none⟩) hRb (.int .i64 t')) (a := ⟨R, 3, none⟩) hRb (.int .i64 v')) (a := ⟨R, 4, none⟩) hRb (.slice a3 es'.length q3)
      have hO9 : Only R w9 (((((w9.setCell ⟨R, 0, none⟩ (.slice a9 k c9)).setCell ⟨R, 1, none⟩ (.int .i64 (k : Nat))).setCell ⟨R, 2, none⟩ (.int .i64 t')).setCell ⟨R, 3, none⟩ (.int .i64 v')).setCell ⟨R, 4, none⟩ (.slice a3 es'.length q3)) := (((((Only.refl R w9).setCell 0 _).setCell 1 _).setCell 2 _).setCell 3 _).setCell 4 _
      have ho3 : Out lo hi a3 es'.length := fun h b o ha => .inr (Nat.le_trans hhi (hF3 h b o ha))
      refine bodyPost_end (results_none rfl _ _ _) rfl ?_
      refine ⟨rfl, ⟨a9, c9, a3, q3, ?_, RowAt.of_own hown, ?_, ?_, ?_, (hL3.below hb9).out hO9 ho3 hlo hR, ho3⟩, hO⟩
      · simp only [HKL.out]
        exact blk_set (i := 4) (blk_set (i := 3) (blk_set (i := 2) (blk_set (i := 1) (blk_set (i := 0) gR9 (.slice a9 k c9)) (.int .i64 (k : Nat))) (.int .i64 t')) (.int .i64 v')) (.slice a3 es'.length q3)
      · simp only [HKL.out]
        exact own_none hown
      · simp only [HKL.out]
        exact own_le' hown
      · simp only [HKL.out]
        intro h0 b o hb
        have h5 := own_from hown h0 b o hb
        have h6 := hww.size
        exact .inr (by omega)
end Go.Proofs.Ytnbljcbfnplbaaa
