/-
  What a member is to add.
-/
import Derived.Test.YtlejbhgginolgaaRaftC
namespace Go.Proofs.Ytlejbhgginolgaa
open Go.RowKit
set_option linter.unusedVariables false
theorem own_set9 {w : World} {base F : Nat} {e : TypeId} {size n : Nat} {v : Value} {xs : List Value} (h : w.ownsRow base e size v n xs) (hF : F < base) (x0 x1 x2 x3 x4 x5 x6 x7 x8 : Value) : (set9 w F x0 x1 x2 x3 x4 x5 x6 x7 x8).ownsRow base e size v n xs :=
  ownsRow_setCell_below (ownsRow_setCell_below (ownsRow_setCell_below (ownsRow_setCell_below (ownsRow_setCell_below (ownsRow_setCell_below (ownsRow_setCell_below (ownsRow_setCell_below (ownsRow_setCell_below h (a := ⟨F, 0, none⟩) hF x0) (a := ⟨F, 1, none⟩) hF x1) (a := ⟨F, 2, none⟩) hF x2) (a := ⟨F, 3, none⟩) hF x3) (a := ⟨F, 4, none⟩) hF x4) (a := ⟨F, 5, none⟩) hF x5) (a := ⟨F, 6, none⟩) hF x6) (a := ⟨F, 7, none⟩) hF x7) (a := ⟨F, 8, none⟩) hF x8
section
variable {w : World} {b : Nat} {a : MA} {m : Mb}
set_option maxRecDepth 100000 in
set_option maxHeartbeats 3200000 in
theorem addn_at (h : MAt w b a m) (hok : MbOk m) (j : Nat) (hj : j < m.prog.length) : Calls Try.prog 33 #[.pointer (some ⟨b, 0, none⟩), .int .i64 ((j : Int) + 1)] w (RetM (m.addn ((j : Int) + 1)) w) := by
  have n16 := hok.n16
  have hp := hok.prAt ((j : Int) + 1)
  obtain ⟨p0, p1⟩ := prV_at hj
  have hpr : m.prAt ((j : Int) + 1) = m.prog[j]'hj := by unfold Mb.prAt; rw [show ((j : Int) + 1 - 1).toNat = j by omega, List.getD_eq_getElem?_getD, List.getElem?_eq_getElem hj]; rfl
  rw [← hpr] at p0 p1
  clear hpr
  have HP1 := Lib.hid p1
  clear p0 p1
  have HS : Hid (∀ W, Below w.heap.size w W → Calls Try.prog 29 #[.pointer (some ⟨b, 0, none⟩), .int .i64 2, .int .i64 ((j : Int) + 1)] W fun e w' => e = .returned (.agg #[.int .i64 2, .int .i64 m.id, .int .i64 ((j : Int) + 1), .int .i64 m.term, .int .i64 0, .int .i64 0, .int .i64 0, .bool false, .slice none 0 0]) ∧ Below W.heap.size W w') := fun W hW => say_any (h.below hW) 2 ((j : Int) + 1)
  have HT : Hid (∀ W, Below w.heap.size w W → Calls Try.prog 41 #[logV 0 0 a.la m.log.length a.lc, .int .i64 ((m.prAt ((j : Int) + 1)).2 - 1)] W fun e w' => e = .returned (.tuple #[.int .i64 (m.addn ((j : Int) + 1)).lterm, .bool (termF 0 0 m.log ((m.prAt ((j : Int) + 1)).2 - 1)).2]) ∧ Below W.heap.size W w') := fun W hW => term_any 0 0 a.la a.lc m.log _ W (LogIn.of_own (own_below h.log hW))
  have HF : Hid (∀ W, Below w.heap.size w W → Calls Try.prog 46 #[logV 0 0 a.la m.log.length a.lc, .int .i64 (m.prAt ((j : Int) + 1)).2, .int .i64 8] W (RetRow 47 7 (m.addn ((j : Int) + 1)).ents.length (ensV (m.addn ((j : Int) + 1)).ents) W)) := fun W hW => from_any 0 0 a.la a.lc m.log _ 8 W (LogIn.of_own (own_below h.log hW))
  have HX : Hid (m.addn ((j : Int) + 1) = ⟨2, m.id, (j : Int) + 1, m.term, (m.prAt ((j : Int) + 1)).2 - 1, (m.addn ((j : Int) + 1)).lterm, m.settled, false, (m.addn ((j : Int) + 1)).ents⟩) := rfl
  have HO := Lib.hid h
  generalize termF 0 0 m.log ((m.prAt ((j : Int) + 1)).2 - 1) = TT at HT
  obtain ⟨_, TB⟩ := TT
  simp only at HT
  generalize hLT : (m.addn ((j : Int) + 1)).lterm = LT at HT HX
  generalize hE : (m.addn ((j : Int) + 1)).ents = E at HF HX
  generalize m.prAt ((j : Int) + 1) = P at HT HF HX HP1 hp
  clear hLT hE
  obtain ⟨P1, P2⟩ := P
  simp only at HT HF HX HP1 hp
  obtain ⟨hp1, hp2, hp3, hp4⟩ := hp
  have hal := below1 w (.cells #[.int .i64 0, .int .i64 0, .int .i64 0, .int .i64 0, .int .i64 0, .int .i64 0, .int .i64 0, .bool false, .slice none 0 0] 37)
  have g0 := blk_new w (.cells #[.int .i64 0, .int .i64 0, .int .i64 0, .int .i64 0, .int .i64 0, .int .i64 0, .int .i64 0, .bool false, .slice none 0 0] 37)
  have hk0 : (0 : Int) ≤ (j : Int) := by omega
  have hk4 : (j : Int) < m.prog.length := by omega
  have hk5 : (j : Int) + 1 ≤ 16 := by omega
  go_enter Try.func33, Try.ntmps33
  go_wp2_with (go_at_call 29; refine (HS.out _ hal).mono ?_; rintro e w1 ⟨rfl, hb1⟩; have hw1 := hal.trans (hb1.mono hal.size); have G0 := blk_keep hb1 g0; have H1 := HO.out.below (hw1.trans ((below1 w1 (.cells #[.int .i64 2, .int .i64 m.id, .int .i64 ((j : Int) + 1), .int .i64 m.term, .int .i64 0, .int .i64 0, .int .i64 0, .bool false, .slice none 0 0] 37)).mono hw1.size)); obtain ⟨c0, c1, c2, c3, c4, c5, c6, c7, c8, c9, hlt⟩ := box10 H1.blk; obtain ⟨pg, poff, hA, pglt, d1⟩ := (RowAt.of_own H1.prog).at HP1.out; cases hA; rw [Nat.zero_add] at d1)
  have hwA := hw1.trans ((below1 w1 (.cells #[.int .i64 2, .int .i64 m.id, .int .i64 ((j : Int) + 1), .int .i64 m.term, .int .i64 0, .int .i64 0, .int .i64 0, .bool false, .slice none 0 0] 37)).mono hw1.size)
  have G0' := blk_keep (below1 w1 (.cells #[.int .i64 2, .int .i64 m.id, .int .i64 ((j : Int) + 1), .int .i64 m.term, .int .i64 0, .int .i64 0, .int .i64 0, .bool false, .slice none 0 0] 37)) G0
  have G1 := blk_new w1 (.cells #[.int .i64 2, .int .i64 m.id, .int .i64 ((j : Int) + 1), .int .i64 m.term, .int .i64 0, .int .i64 0, .int .i64 0, .bool false, .slice none 0 0] 37)
  have hlt0 := blk_lt G0
  have hbF : b ≠ w1.heap.size := by have := blk_lt h.blk; omega
  clear hb1 hw1 G0 g0 hal
  generalize w1.alloc (.cells #[.int .i64 2, .int .i64 m.id, .int .i64 ((j : Int) + 1), .int .i64 m.term, .int .i64 0, .int .i64 0, .int .i64 0, .bool false, .slice none 0 0] 37) = W1 at *
  generalize w1.heap.size = F1 at *
  obtain ⟨fr0, fr1, fr2, fr3, fr4, fr5, fr6, fr7, fr8, fr9⟩ := fro9 G1
  obtain ⟨x0, x1, x2, x3, x4, x5, x6, x7, x8⟩ := box9 G1
  have flt := blk_lt G1
  have hF1 : w.heap.size ≤ F1 := by omega
  have hwr : IntKind.i64.wrap (P2 - 1) = P2 - 1 := wrap_id (by omega) (by omega)
  go_cut [5] (fun p wx => p = .pointer (some ⟨F1, 0, none⟩) ∧ wx.heap[F1]? = some (.cells #[.int .i64 2, .int .i64 m.id, .int .i64 ((j : Int) + 1), .int .i64 m.term, .int .i64 (P2 - 1), .int .i64 0, .int .i64 m.settled, .bool false, .slice none 0 0] 37) ∧ wx.heap[w.heap.size]? = some (.cells #[.int .i64 0, .int .i64 0, .int .i64 0, .int .i64 0, .int .i64 0, .int .i64 0, .int .i64 0, .bool false, .slice none 0 0] 37) ∧ Below w.heap.size w wx)
  case first =>
    go_region_law (fail)
    all_goals (go_wp2_with fail; go_meet)
    all_goals (first
      | exact ⟨rfl, blk_set (i := 6) (blk_set (i := 4) G1 _) _, blk_far (blk_far G0' (by omega) _) (by omega) _, ((hwA.setCell (p := ⟨F1, 4, none⟩) hF1 _).setCell (p := ⟨F1, 6, none⟩) hF1 _).drew⟩
      | exact ⟨rfl, blk_set (i := 4) (blk_set (i := 6) G1 _) _, blk_far (blk_far G0' (by omega) _) (by omega) _, ((hwA.setCell (p := ⟨F1, 6, none⟩) hF1 _).setCell (p := ⟨F1, 4, none⟩) hF1 _).drew⟩)
  case rest =>
    obtain ⟨rfl, G2, G02, hwB⟩ := hcut
    clear c0 c1 c2 c3 c4 c5 c6 c7 c8 c9 hlt fr0 fr1 fr2 fr3 fr4 fr5 fr6 fr7 fr8 fr9 x0 x1 x2 x3 x4 x5 x6 x7 x8 flt hwr
    have H2 := HO.out.below hwB
    obtain ⟨c0, c1, c2, c3, c4, c5, c6, c7, c8, c9, hlt⟩ := box10 H2.blk
    obtain ⟨fr0, fr1, fr2, fr3, fr4, fr5, fr6, fr7, fr8, fr9⟩ := fro9 G2
    obtain ⟨x0, x1, x2, x3, x4, x5, x6, x7, x8⟩ := box9 G2
    have flt := blk_lt G2
    have HT2 := Lib.hid (HT.out wc.drew hwB.drew)
    go_wp2
    go_cut [5] (fun p wx => p = .pointer (some ⟨F1, 0, none⟩) ∧ wx.heap[F1]? = some (.cells #[.int .i64 2, .int .i64 m.id, .int .i64 ((j : Int) + 1), .int .i64 m.term, .int .i64 (P2 - 1), .int .i64 LT, .int .i64 m.settled, .bool false, .slice none 0 0] 37) ∧ wx.heap[w.heap.size]? = some (.cells #[.int .i64 0, .int .i64 0, .int .i64 0, .int .i64 0, .int .i64 0, .int .i64 0, .int .i64 0, .bool false, .slice none 0 0] 37) ∧ Below w.heap.size w wx)
    case first =>
      go_region_law (first
        | (go_simp; go_at_call 41; refine HT2.out.mono ?_; rintro e w3 ⟨rfl, hb3⟩; have hw3 := hwB.drew.trans (hb3.mono hwB.size); have G3 := blk_keep hb3 (blk_drawn G2); have G03 := blk_keep hb3 (blk_drawn G02); obtain ⟨fs0, fs1, fs2, fs3, fs4, fs5, fs6, fs7, fs8, fs9⟩ := fro9 G3; obtain ⟨y0, y1, y2, y3, y4, y5, y6, y7, y8⟩ := box9 G3; (try go_simp)))
      all_goals (go_wp2_with fail; go_meet)
      all_goals exact ⟨rfl, blk_set (i := 5) G3 _, blk_far G03 (by omega) _, hw3.setCell (p := ⟨F1, 5, none⟩) hF1 _⟩
    case rest =>
      obtain ⟨rfl, G4, G04, hwD⟩ := hcut
      clear c0 c1 c2 c3 c4 c5 c6 c7 c8 c9 hlt fr0 fr1 fr2 fr3 fr4 fr5 fr6 fr7 fr8 fr9 x0 x1 x2 x3 x4 x5 x6 x7 x8 flt
      have H4 := HO.out.below hwD
      obtain ⟨c0, c1, c2, c3, c4, c5, c6, c7, c8, c9, hlt⟩ := box10 H4.blk
      go_wp2_with (go_at_call 46; refine (HF.out _ hwD).mono ?_; rintro e w5 ⟨a5, c5', rfl, own5, hb5⟩; have hw5 := hwD.trans (hb5.mono hwD.size); have G5 := blk_keep hb5 G4; have G05 := blk_keep hb5 G04; obtain ⟨fr0, fr1, fr2, fr3, fr4, fr5, fr6, fr7, fr8, fr9⟩ := fro9 G5; obtain ⟨x0, x1, x2, x3, x4, x5, x6, x7, x8⟩ := box9 G5; obtain ⟨fs0, fs1, fs2, fs3, fs4, fs5, fs6, fs7, fs8, fs9⟩ := fro9 G05; obtain ⟨y0, y1, y2, y3, y4, y5, y6, y7, y8⟩ := box9 G05; have flt := blk_lt G5; have flt0 := blk_lt G05)
      have G6 := blk_set (i := 8) G5 (.slice a5 E.length c5')
      obtain ⟨k0, k1, k2, k3, k4, k5, k6, k7, k8⟩ := box9 (set9_blk (blk_far (i := 8) (G := F1) G05 (by omega) (.slice a5 E.length c5')) (.int .i64 2) (.int .i64 m.id) (.int .i64 ((j : Int) + 1)) (.int .i64 m.term) (.int .i64 (P2 - 1)) (.int .i64 LT) (.int .i64 m.settled) (.bool false) (.slice a5 E.length c5'))
      refine bodyPost_ret (v := .agg #[.int .i64 2, .int .i64 m.id, .int .i64 ((j : Int) + 1), .int .i64 m.term, .int .i64 (P2 - 1), .int .i64 LT, .int .i64 m.settled, .bool false, .slice a5 E.length c5']) (by simp [results, Try.results33, go_sem, k0, k1, k2, k3, k4, k5, k6, k7, k8]) rfl ?_
      rw [HX.out]
      exact ⟨a5, c5', rfl, own_base (own_set9 (ownsRow_setCell_below own5 (a := ⟨F1, 8, none⟩) (blk_lt G4) _) (blk_lt G04) _ _ _ _ _ _ _ _ _) hwD.size, set9_below (hw5.setCell (p := ⟨F1, 8, none⟩) hF1 _) (Nat.le_refl _) _ _ _ _ _ _ _ _ _⟩
end
end Go.Proofs.Ytlejbhgginolgaa
