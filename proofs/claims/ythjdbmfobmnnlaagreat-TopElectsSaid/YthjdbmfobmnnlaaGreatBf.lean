/-
  Bf: several texts in one.
-/
import Derived.Test.YthjdbmfobmnnlaaGreatBe
/-
  A member settles what most have.
-/
namespace Go.Proofs.YthjdbmfobmnnlaaGreat
open Go.RowKit
set_option linter.unusedVariables false
section
variable {w : World} {b : Nat} {a : MA} {m : Mb}
set_option maxRecDepth 100000 in
set_option maxHeartbeats 3200000 in
theorem settle_same (h : MAt w b a m) (hok : MbOk m) : Calls Tryz.prog 116 #[.pointer (some ⟨b, 0, none⟩)] w fun e w' => e = .returned (.tuple #[]) ∧ MAt w' b a m.settle ∧ Step w b a w' a := by
  obtain ⟨c0, c1, c2, c3, c4, c5, c6, c7, c8, c9, hlt⟩ := box10 h.blk
  have n1 := hok.n1
  have n16 := hok.n16
  have HR := Lib.hid (RowAt.of_own h.prog)
  have HO := Lib.hid h
  go_enter Tryz.func116, Tryz.ntmps116
  go_wp2
  go_loopw [2, 10] (fun v i wr => ∃ (k : Nat) (A : Option Addr) (c : Nat), k ≤ m.prog.length ∧ i = .int .i64 (k : Int) ∧ v = .slice A k c ∧ wr.ownsRow w.heap.size 3 1 (.slice A k c) k ((m.prog.take k).map fun p => intV p.1) ∧ Below w.heap.size w wr) (fun _ i _ => m.prog.length - (intOf i).toNat)
  case atStart => exact ⟨0, none, 0, by omega, rfl, rfl, World.ownsRow_nil _ _ _ _, below0 _⟩
  case round =>
    obtain ⟨k, A, c, hk, rfl, rfl, hown, hb⟩ := hrel
    by_cases hlt : k < m.prog.length
    · obtain ⟨p0, p1⟩ := prV_at hlt
      obtain ⟨g, off, hA, glt, d0⟩ := (HR.out.below hb).at p0
      cases hA
      obtain ⟨g', off', hA', glt', d1⟩ := (HR.out.below hb).at p1
      cases hA'
      rw [Nat.zero_add] at d0 d1
      have hk0 : (0 : Int) ≤ (k : Int) := by omega
      have hk1 : (k : Int) < (m.prog.length : Int) := by omega
      have hk2 : (k : Int) ≤ 16 := by omega
      have HT : Hid ((m.prog.take (k + 1)).map (fun p => intV p.1) = (m.prog.take k).map (fun p => intV p.1) ++ [intV (m.prog[k]'hlt).1]) := by rw [Hid, List.take_succ_eq_append_getElem hlt, List.map_append]; rfl
      generalize (m.prog[k]'hlt) = p at d0 d1 HT
      generalize (m.prog.take k).map (fun p => intV p.1) = xs at HT hown
      have hs := hb.size
      have HNEW : Hid (RowAt ((wr.alloc (.cells #[.int .i64 p.1, .int .i64 p.2] 183)).alloc (.cells #[.int .i64 p.1] 3)) (some ⟨wr.heap.size + 1, 0, none⟩) [intV p.1]) := by
        have := RowAt.new (wr.alloc (.cells #[.int .i64 p.1, .int .i64 p.2] 183)) #[.int .i64 p.1] 3
        exact (by simpa [intV] using this : RowAt _ _ _)
      go_wp2_with (at_builtin; refine wpList_append_row rfl (.tmp 14) (.tmp 17) rfl elemI w.heap.size _ k xs (by rfl) (own_below hown (below2 wr _ _)) (some ⟨wr.heap.size + 1, 0, none⟩) 1 1 [intV p.1] (by rfl) (by rfl) HNEW.out (intV_one [p.1]) (by unfold maxLen; omega) (by omega) (by simp; omega) (fun h => by cases h) ?_; intro A1 c1 w1 hown1 hg1 hat1; have hb1 := Below.appended ((hb.trans ((below2 wr (.cells #[.int .i64 p.1, .int .i64 p.2] 183) (.cells #[.int .i64 p.1] 3)).mono hb.size))) (own_below hown (below2 wr _ _)) hg1 (by simp; omega) (Nat.le_refl _))
      go_roundw
      case rel => exact ⟨k + 1, A1, c1, by omega, by go_num, rfl, by rw [HT.out]; exact hown1, hb1⟩
      case measure => simp [intOf]; omega
    · have hk' : k = m.prog.length := by omega
      subst hk'
      rw [List.take_length] at hown
      have h1 := HO.out.below hb
      have hC : Hid (∀ W, Below wr.heap.size wr W → Calls Tryz.prog 176 #[logV 0 0 a.la m.log.length a.lc, .slice A m.prog.length c, .int .i64 m.term, .int .i64 m.settled] W fun e w' => e = .returned (.int .i64 m.settle.settled) ∧ Below W.heap.size W w') := fun W hW => by
        have h3 : (m.prog.map fun p => p.1).length = m.prog.length := List.length_map ..
        have h4 := commit_any 0 0 a.la a.lc m.log A c (m.prog.map fun p => p.1) m.term m.settled W (LogIn.of_own (own_below h1.log hW)) ⟨(by have := RowAt.of_own (own_below hown hW); unfold CellsI; rw [List.map_map]; exact this), by rw [h3]; exact own_le' hown, fun h => by rw [h3]; exact own_nil' hown h, fun n hn => by
          obtain ⟨p, hp, rfl⟩ := List.mem_map.1 hn
          have := hok.pr p hp
          simp [Lit.wf, IntKind.min, IntKind.max, IntKind.bits, IntKind.signed]
          omega⟩ (by rw [h3]; omega)
        rwa [h3] at h4
      clear c0 c1 c2 c3 c4 c5 c6 c7 c8 c9
      obtain ⟨c0, c1, c2, c3, c4, c5, c6, c7, c8, c9, hlt⟩ := box10 h1.blk
      go_wp2
      go_region_law (first
        | (go_simp; go_at_call 176; refine (hC.out _ (below0 _).drew).mono ?_; rintro e w1 ⟨rfl, hb1⟩; have h2 := (h1.below (below0 _).drew).below hb1; obtain ⟨d0, d1, d2, d3, d4, d5, d6, d7, d8, d9, dlt⟩ := box10 h2.blk; obtain ⟨fr0, fr1, fr2, fr3, fr4, fr5, fr6, fr7, fr8, fr9⟩ := fro9 h2.blk; (try go_simp)))
      all_goals refine bodyPost_end (results_none rfl _ _ _) rfl ?_
      all_goals exact ⟨rfl, h2.store 7 _ rfl rfl rfl rfl, ((Step.of_below hb).below ((below0 _).drew.trans hb1)).store 7 _⟩
theorem settle_any (h : MAt w b a m) (hok : MbOk m) : Calls Tryz.prog 116 #[.pointer (some ⟨b, 0, none⟩)] w (RetU m.settle b a (.tuple #[]) w) := (settle_same h hok).mono fun e w' ⟨h1, h2, h3⟩ => ⟨a, h1, h2, h3⟩
end
end Go.Proofs.YthjdbmfobmnnlaaGreat

/-
  What a member is to add.
-/
namespace Go.Proofs.YthjdbmfobmnnlaaGreat
open Go.RowKit
set_option linter.unusedVariables false
theorem own_set9 {w : World} {base F : Nat} {e : TypeId} {size n : Nat} {v : Value} {xs : List Value} (h : w.ownsRow base e size v n xs) (hF : F < base) (x0 x1 x2 x3 x4 x5 x6 x7 x8 : Value) : (set9 w F x0 x1 x2 x3 x4 x5 x6 x7 x8).ownsRow base e size v n xs :=
  ownsRow_setCell_below (ownsRow_setCell_below (ownsRow_setCell_below (ownsRow_setCell_below (ownsRow_setCell_below (ownsRow_setCell_below (ownsRow_setCell_below (ownsRow_setCell_below (ownsRow_setCell_below h (a := ⟨F, 0, none⟩) hF x0) (a := ⟨F, 1, none⟩) hF x1) (a := ⟨F, 2, none⟩) hF x2) (a := ⟨F, 3, none⟩) hF x3) (a := ⟨F, 4, none⟩) hF x4) (a := ⟨F, 5, none⟩) hF x5) (a := ⟨F, 6, none⟩) hF x6) (a := ⟨F, 7, none⟩) hF x7) (a := ⟨F, 8, none⟩) hF x8
section
variable {w : World} {b : Nat} {a : MA} {m : Mb}
set_option maxRecDepth 100000 in
set_option maxHeartbeats 3200000 in
theorem addn_at (h : MAt w b a m) (hok : MbOk m) (j : Nat) (hj : j < m.prog.length) : Calls Tryz.prog 67 #[.pointer (some ⟨b, 0, none⟩), .int .i64 ((j : Int) + 1)] w (RetM (m.addn ((j : Int) + 1)) w) := by
  have n16 := hok.n16
  have hp := hok.prAt ((j : Int) + 1)
  obtain ⟨p0, p1⟩ := prV_at hj
  have hpr : m.prAt ((j : Int) + 1) = m.prog[j]'hj := by unfold Mb.prAt; rw [show ((j : Int) + 1 - 1).toNat = j by omega, List.getD_eq_getElem?_getD, List.getElem?_eq_getElem hj]; rfl
  rw [← hpr] at p0 p1
  clear hpr
  have HP1 := Lib.hid p1
  clear p0 p1
  have HS : Hid (∀ W, Below w.heap.size w W → Calls Tryz.prog 66 #[.pointer (some ⟨b, 0, none⟩), .int .i64 2, .int .i64 ((j : Int) + 1)] W fun e w' => e = .returned (.agg #[.int .i64 2, .int .i64 m.id, .int .i64 ((j : Int) + 1), .int .i64 m.term, .int .i64 0, .int .i64 0, .int .i64 0, .bool false, .slice none 0 0]) ∧ Below W.heap.size W w') := fun W hW => say_any (h.below hW) 2 ((j : Int) + 1)
  have HT : Hid (∀ W, Below w.heap.size w W → Calls Tryz.prog 36 #[logV 0 0 a.la m.log.length a.lc, .int .i64 ((m.prAt ((j : Int) + 1)).2 - 1)] W fun e w' => e = .returned (.tuple #[.int .i64 (m.addn ((j : Int) + 1)).lterm, .bool (termF 0 0 m.log ((m.prAt ((j : Int) + 1)).2 - 1)).2]) ∧ Below W.heap.size W w') := fun W hW => term_any 0 0 a.la a.lc m.log _ W (LogIn.of_own (own_below h.log hW))
  have HF : Hid (∀ W, Below w.heap.size w W → Calls Tryz.prog 117 #[logV 0 0 a.la m.log.length a.lc, .int .i64 (m.prAt ((j : Int) + 1)).2, .int .i64 8] W (RetRow 82 7 (m.addn ((j : Int) + 1)).ents.length (ensV (m.addn ((j : Int) + 1)).ents) W)) := fun W hW => from_any 0 0 a.la a.lc m.log _ 8 W (LogIn.of_own (own_below h.log hW))
  have HX : Hid (m.addn ((j : Int) + 1) = ⟨2, m.id, (j : Int) + 1, m.term, (m.prAt ((j : Int) + 1)).2 - 1, (m.addn ((j : Int) + 1)).lterm, m.settled, false, (m.addn ((j : Int) + 1)).ents⟩) := rfl
  have HO := Lib.hid h
  generalize termF 0 0 m.log ((m.prAt ((j : Int) + 1)).2 - 1) = TT at HT
  obtain ⟨_, TB⟩ := TT
  simp only at HT
  generalize hLT : (m.addn ((j : Int) + 1)).lterm = LT at HT HX
  generalize hE : (m.addn ((j : Int) + 1)).ents = E at HF HX
  generalize m.prAt ((j : Int) + 1) = P at HT HF HX HP1 hp
  clear hLT hE
  obtain ⟨P1, P2⟩ := P
  simp only at HT HF HX HP1 hp
  obtain ⟨hp1, hp2, hp3, hp4⟩ := hp
  have hal := below1 w (.cells #[.int .i64 0, .int .i64 0, .int .i64 0, .int .i64 0, .int .i64 0, .int .i64 0, .int .i64 0, .bool false, .slice none 0 0] 70)
  have g0 := blk_new w (.cells #[.int .i64 0, .int .i64 0, .int .i64 0, .int .i64 0, .int .i64 0, .int .i64 0, .int .i64 0, .bool false, .slice none 0 0] 70)
  have hk0 : (0 : Int) ≤ (j : Int) := by omega
  have hk4 : (j : Int) < m.prog.length := by omega
  have hk5 : (j : Int) + 1 ≤ 16 := by omega
  go_enter Tryz.func67, Tryz.ntmps67
  go_wp2_with (go_at_call 66; refine (HS.out _ hal).mono ?_; rintro e w1 ⟨rfl, hb1⟩; have hw1 := hal.trans (hb1.mono hal.size); have G0 := blk_keep hb1 g0; have H1 := HO.out.below (hw1.trans ((below1 w1 (.cells #[.int .i64 2, .int .i64 m.id, .int .i64 ((j : Int) + 1), .int .i64 m.term, .int .i64 0, .int .i64 0, .int .i64 0, .bool false, .slice none 0 0] 70)).mono hw1.size)); obtain ⟨c0, c1, c2, c3, c4, c5, c6, c7, c8, c9, hlt⟩ := box10 H1.blk; obtain ⟨pg, poff, hA, pglt, d1⟩ := (RowAt.of_own H1.prog).at HP1.out; cases hA; rw [Nat.zero_add] at d1)
  have hwA := hw1.trans ((below1 w1 (.cells #[.int .i64 2, .int .i64 m.id, .int .i64 ((j : Int) + 1), .int .i64 m.term, .int .i64 0, .int .i64 0, .int .i64 0, .bool false, .slice none 0 0] 70)).mono hw1.size)
  have G0' := blk_keep (below1 w1 (.cells #[.int .i64 2, .int .i64 m.id, .int .i64 ((j : Int) + 1), .int .i64 m.term, .int .i64 0, .int .i64 0, .int .i64 0, .bool false, .slice none 0 0] 70)) G0
  have G1 := blk_new w1 (.cells #[.int .i64 2, .int .i64 m.id, .int .i64 ((j : Int) + 1), .int .i64 m.term, .int .i64 0, .int .i64 0, .int .i64 0, .bool false, .slice none 0 0] 70)
  have hlt0 := blk_lt G0
  have hbF : b ≠ w1.heap.size := by have := blk_lt h.blk; omega
  clear hb1 hw1 G0 g0 hal
  generalize w1.alloc (.cells #[.int .i64 2, .int .i64 m.id, .int .i64 ((j : Int) + 1), .int .i64 m.term, .int .i64 0, .int .i64 0, .int .i64 0, .bool false, .slice none 0 0] 70) = W1 at *
  generalize w1.heap.size = F1 at *
  obtain ⟨fr0, fr1, fr2, fr3, fr4, fr5, fr6, fr7, fr8, fr9⟩ := fro9 G1
  obtain ⟨x0, x1, x2, x3, x4, x5, x6, x7, x8⟩ := box9 G1
  have flt := blk_lt G1
  have hF1 : w.heap.size ≤ F1 := by omega
  have hwr : IntKind.i64.wrap (P2 - 1) = P2 - 1 := wrap_id (by omega) (by omega)
  go_cut [5] (fun p wx => p = .pointer (some ⟨F1, 0, none⟩) ∧ wx.heap[F1]? = some (.cells #[.int .i64 2, .int .i64 m.id, .int .i64 ((j : Int) + 1), .int .i64 m.term, .int .i64 (P2 - 1), .int .i64 0, .int .i64 m.settled, .bool false, .slice none 0 0] 70) ∧ wx.heap[w.heap.size]? = some (.cells #[.int .i64 0, .int .i64 0, .int .i64 0, .int .i64 0, .int .i64 0, .int .i64 0, .int .i64 0, .bool false, .slice none 0 0] 70) ∧ Below w.heap.size w wx)
  case first =>
    go_region_law (fail)
    all_goals (go_wp2_with fail; go_meet)
    all_goals (first
      | exact ⟨rfl, blk_set (i := 6) (blk_set (i := 4) G1 _) _, blk_far (blk_far G0' (by omega) _) (by omega) _, ((hwA.setCell (p := ⟨F1, 4, none⟩) hF1 _).setCell (p := ⟨F1, 6, none⟩) hF1 _).drew⟩
      | exact ⟨rfl, blk_set (i := 4) (blk_set (i := 6) G1 _) _, blk_far (blk_far G0' (by omega) _) (by omega) _, ((hwA.setCell (p := ⟨F1, 6, none⟩) hF1 _).setCell (p := ⟨F1, 4, none⟩) hF1 _).drew⟩)
  case rest =>
    obtain ⟨rfl, G2, G02, hwB⟩ := hcut
    clear c0 c1 c2 c3 c4 c5 c6 c7 c8 c9 hlt fr0 fr1 fr2 fr3 fr4 fr5 fr6 fr7 fr8 fr9 x0 x1 x2 x3 x4 x5 x6 x7 x8 flt hwr
    have H2 := HO.out.below hwB
    obtain ⟨c0, c1, c2, c3, c4, c5, c6, c7, c8, c9, hlt⟩ := box10 H2.blk
    obtain ⟨fr0, fr1, fr2, fr3, fr4, fr5, fr6, fr7, fr8, fr9⟩ := fro9 G2
    obtain ⟨x0, x1, x2, x3, x4, x5, x6, x7, x8⟩ := box9 G2
    have flt := blk_lt G2
    have HT2 := Lib.hid (HT.out wc.drew hwB.drew)
    go_wp2
    go_cut [5] (fun p wx => p = .pointer (some ⟨F1, 0, none⟩) ∧ wx.heap[F1]? = some (.cells #[.int .i64 2, .int .i64 m.id, .int .i64 ((j : Int) + 1), .int .i64 m.term, .int .i64 (P2 - 1), .int .i64 LT, .int .i64 m.settled, .bool false, .slice none 0 0] 70) ∧ wx.heap[w.heap.size]? = some (.cells #[.int .i64 0, .int .i64 0, .int .i64 0, .int .i64 0, .int .i64 0, .int .i64 0, .int .i64 0, .bool false, .slice none 0 0] 70) ∧ Below w.heap.size w wx)
    case first =>
      go_region_law (first
        | (go_simp; go_at_call 36; refine HT2.out.mono ?_; rintro e w3 ⟨rfl, hb3⟩; have hw3 := hwB.drew.trans (hb3.mono hwB.size); have G3 := blk_keep hb3 (blk_drawn G2); have G03 := blk_keep hb3 (blk_drawn G02); obtain ⟨fs0, fs1, fs2, fs3, fs4, fs5, fs6, fs7, fs8, fs9⟩ := fro9 G3; obtain ⟨y0, y1, y2, y3, y4, y5, y6, y7, y8⟩ := box9 G3; (try go_simp)))
      all_goals (go_wp2_with fail; go_meet)
      all_goals exact ⟨rfl, blk_set (i := 5) G3 _, blk_far G03 (by omega) _, hw3.setCell (p := ⟨F1, 5, none⟩) hF1 _⟩
    case rest =>
      obtain ⟨rfl, G4, G04, hwD⟩ := hcut
      clear c0 c1 c2 c3 c4 c5 c6 c7 c8 c9 hlt fr0 fr1 fr2 fr3 fr4 fr5 fr6 fr7 fr8 fr9 x0 x1 x2 x3 x4 x5 x6 x7 x8 flt
      have H4 := HO.out.below hwD
      obtain ⟨c0, c1, c2, c3, c4, c5, c6, c7, c8, c9, hlt⟩ := box10 H4.blk
      go_wp2_with (go_at_call 117; refine (HF.out _ hwD).mono ?_; rintro e w5 ⟨a5, c5', rfl, own5, hb5⟩; have hw5 := hwD.trans (hb5.mono hwD.size); have G5 := blk_keep hb5 G4; have G05 := blk_keep hb5 G04; obtain ⟨fr0, fr1, fr2, fr3, fr4, fr5, fr6, fr7, fr8, fr9⟩ := fro9 G5; obtain ⟨x0, x1, x2, x3, x4, x5, x6, x7, x8⟩ := box9 G5; obtain ⟨fs0, fs1, fs2, fs3, fs4, fs5, fs6, fs7, fs8, fs9⟩ := fro9 G05; obtain ⟨y0, y1, y2, y3, y4, y5, y6, y7, y8⟩ := box9 G05; have flt := blk_lt G5; have flt0 := blk_lt G05)
      have G6 := blk_set (i := 8) G5 (.slice a5 E.length c5')
      obtain ⟨k0, k1, k2, k3, k4, k5, k6, k7, k8⟩ := box9 (set9_blk (blk_far (i := 8) (G := F1) G05 (by omega) (.slice a5 E.length c5')) (.int .i64 2) (.int .i64 m.id) (.int .i64 ((j : Int) + 1)) (.int .i64 m.term) (.int .i64 (P2 - 1)) (.int .i64 LT) (.int .i64 m.settled) (.bool false) (.slice a5 E.length c5'))
      refine bodyPost_ret (v := .agg #[.int .i64 2, .int .i64 m.id, .int .i64 ((j : Int) + 1), .int .i64 m.term, .int .i64 (P2 - 1), .int .i64 LT, .int .i64 m.settled, .bool false, .slice a5 E.length c5']) (by simp [results, Tryz.results67, go_sem, k0, k1, k2, k3, k4, k5, k6, k7, k8]) rfl ?_
      rw [HX.out]
      exact ⟨a5, c5', rfl, own_base (own_set9 (ownsRow_setCell_below own5 (a := ⟨F1, 8, none⟩) (blk_lt G4) _) (blk_lt G04) _ _ _ _ _ _ _ _ _) hwD.size, set9_below (hw5.setCell (p := ⟨F1, 8, none⟩) hF1 _) (Nat.le_refl _) _ _ _ _ _ _ _ _ _⟩
end
end Go.Proofs.YthjdbmfobmnnlaaGreat

/-
  What a member says to who is to vote.
-/
namespace Go.Proofs.YthjdbmfobmnnlaaGreat
open Go.RowKit
set_option linter.unusedVariables false
section
variable {w : World} {b : Nat} {a : MA} {m : Mb}
set_option maxRecDepth 100000 in
set_option maxHeartbeats 3200000 in
theorem ask_at (h : MAt w b a m) (Q : Nat) (hQ : w.heap[Q]? = some (.cells #[.pointer (some ⟨b, 0, none⟩)] 60)) (k : Int) : Calls Tryz.prog 65 #[.int .i64 k, .pointer (some ⟨Q, 0, none⟩)] w (RetM (m.ask k) w) := by
  have HS : Hid (∀ W, Below w.heap.size w W → Calls Tryz.prog 66 #[.pointer (some ⟨b, 0, none⟩), .int .i64 0, .int .i64 k] W fun e w' => e = .returned (.agg #[.int .i64 0, .int .i64 m.id, .int .i64 k, .int .i64 m.term, .int .i64 0, .int .i64 0, .int .i64 0, .bool false, .slice none 0 0]) ∧ Below W.heap.size W w') := fun W hW => say_any (h.below hW) 0 k
  have HL : Hid (∀ W, Below w.heap.size w W → Calls Tryz.prog 9 #[logV 0 0 a.la m.log.length a.lc] W fun e w' => e = .returned (.tuple #[.int .i64 (lastF 0 0 m.log).1, .int .i64 (lastF 0 0 m.log).2]) ∧ Below W.heap.size W w') := fun W hW => last_any 0 0 a.la a.lc m.log W (LogIn.of_own (own_below h.log hW))
  have HX : Hid (m.ask k = ⟨0, m.id, k, m.term, (lastF 0 0 m.log).1, (lastF 0 0 m.log).2, 0, false, []⟩) := rfl
  have HO := Lib.hid h
  have HQ := Lib.hid hQ
  generalize lastF 0 0 m.log = L at HL HX
  obtain ⟨L1, L2⟩ := L
  simp only at HL HX
  have hal := below1 w (.cells #[.int .i64 0, .int .i64 0, .int .i64 0, .int .i64 0, .int .i64 0, .int .i64 0, .int .i64 0, .bool false, .slice none 0 0] 70)
  have g0 := blk_new w (.cells #[.int .i64 0, .int .i64 0, .int .i64 0, .int .i64 0, .int .i64 0, .int .i64 0, .int .i64 0, .bool false, .slice none 0 0] 70)
  have hq0 : (w.alloc (.cells #[.int .i64 0, .int .i64 0, .int .i64 0, .int .i64 0, .int .i64 0, .int .i64 0, .int .i64 0, .bool false, .slice none 0 0] 70)).cell? ⟨Q, 0, none⟩ = some (.pointer (some ⟨b, 0, none⟩)) := blk_cell (blk_keep hal hQ) 0
  have hqlt := blk_lt hQ
  clear hQ
  go_enter Tryz.func65, Tryz.ntmps65
  go_wp2_with (go_at_call 66; refine (HS.out _ hal).mono ?_; rintro e w1 ⟨rfl, hb1⟩; have hw1 := hal.trans (hb1.mono hal.size); have G0 := blk_keep hb1 g0; have hwA := hw1.trans ((below1 w1 (.cells #[.int .i64 0, .int .i64 m.id, .int .i64 k, .int .i64 m.term, .int .i64 0, .int .i64 0, .int .i64 0, .bool false, .slice none 0 0] 70)).mono hw1.size); have H1 := HO.out.below hwA; have q1 := blk_cell (blk_keep hwA HQ.out) 0; obtain ⟨c0, c1, c2, c3, c4, c5, c6, c7, c8, c9, hlt⟩ := box10 H1.blk)
  go_at_call 9
  refine (HL.out _ hwA).mono ?_
  rintro e w2 ⟨rfl, hb2⟩
  have hw2 := hwA.trans (hb2.mono hwA.size)
  have G02 := blk_keep hb2 (blk_alloc G0 _)
  have G2 := blk_keep hb2 (blk_new w1 _)
  obtain ⟨fr0, fr1, fr2, fr3, fr4, fr5, fr6, fr7, fr8, fr9⟩ := fro9 G2
  obtain ⟨x0, x1, x2, x3, x4, x5, x6, x7, x8⟩ := box9 G2
  obtain ⟨fs0, fs1, fs2, fs3, fs4, fs5, fs6, fs7, fs8, fs9⟩ := fro9 G02
  obtain ⟨y0, y1, y2, y3, y4, y5, y6, y7, y8⟩ := box9 G02
  have flt := blk_lt G2
  have flt0 := blk_lt G02
  clear c0 c1 c2 c3 c4 c5 c6 c7 c8 c9 hlt q1 hq0
  have hF := blk_lt G0
  have hFne : w.heap.size ≠ w1.heap.size := by omega
  go_wp2
  obtain ⟨k0, k1, k2, k3, k4, k5, k6, k7, k8⟩ := box9 (set9_blk (blk_far (i := 5) (G := w1.heap.size) (blk_far (i := 4) (G := w1.heap.size) G02 (by omega) (.int .i64 L1)) (by omega) (.int .i64 L2)) (.int .i64 0) (.int .i64 m.id) (.int .i64 k) (.int .i64 m.term) (.int .i64 L1) (.int .i64 L2) (.int .i64 0) (.bool false) (.slice none 0 0))
  refine bodyPost_ret (v := .agg #[.int .i64 0, .int .i64 m.id, .int .i64 k, .int .i64 m.term, .int .i64 L1, .int .i64 L2, .int .i64 0, .bool false, .slice none 0 0]) (by simp [results, Tryz.results65, go_sem, k0, k1, k2, k3, k4, k5, k6, k7, k8]) rfl ?_
  rw [HX.out]
  exact ⟨none, 0, rfl, World.ownsRow_nil _ _ _ _, set9_below ((hw2.setCell (p := ⟨w1.heap.size, 4, none⟩) (by show w.heap.size ≤ w1.heap.size; omega) _).setCell (p := ⟨w1.heap.size, 5, none⟩) (by show w.heap.size ≤ w1.heap.size; omega) _) (Nat.le_refl _) _ _ _ _ _ _ _ _ _⟩
end
end Go.Proofs.YthjdbmfobmnnlaaGreat

/-
  What a member says to each of the others.
-/
namespace Go.Proofs.YthjdbmfobmnnlaaGreat
open Go.RowKit
set_option linter.unusedVariables false
theorem toAll_le (id : Int) (f : Int → Ms) (k : Nat) : (Mb.toAll id f k).length ≤ k := by
  induction k with
  | zero => exact Nat.le_refl _
  | succ k ih =>
    rw [Mb.toAll, List.length_append]
    split
    · simp; omega
    · simp; omega
/-- One message more, behind a block that was made and an append. -/
theorem MsAt.snoc {w w1 w2 : World} {base : Nat} {A A2 : Option Addr} {c c2 : Nat} {ms : List Ms} {x : Ms} {sl : List (Option Addr × Nat)} {a1 : Option Addr} {cx : Nat} (h : MsAt w base A c ms sl) (hx : w.ownsRow base 82 7 (.slice a1 x.ents.length cx) x.ents.length (ensV x.ents)) (hb : Below w.heap.size w w1)
    (hown : w2.ownsRow base 70 9 (.slice A2 (ms.length + 1) c2) (ms.length + 1) (msV ms sl ++ x.cells a1 cx)) (hg : w1.grownBy w2 (Value.slice A ms.length c).ownBlock) : MsAt w2 base A2 c2 (ms ++ [x]) (sl ++ [(a1, cx)]) := by
  have hl := h.len
  have hkeep : ∀ (s : Option Addr × Nat) (es : List En), w.ownsRow base 82 7 (.slice s.1 es.length s.2) es.length (ensV es) → w2.ownsRow base 82 7 (.slice s.1 es.length s.2) es.length (ensV es) := fun s es hs => by
    have hs1 := own_below hs hb
    refine ⟨hs1.1, ?_⟩
    rcases hs1.2 with h2 | ⟨g, cap, cur, hv, hgb, hh, r⟩
    · exact .inl h2
    · refine .inr ⟨g, cap, cur, hv, hgb, ?_, r⟩
      rw [hg.block g (blk_lt hh) ?_]
      · exact hh
      · intro e
        have hm := own_below h.own hb
        rcases hm.2 with ⟨h3, _⟩ | ⟨g', cap', cur', hv', _, hh', _⟩
        · rw [h3] at e; cases e
        · rw [hv'] at e
          have e2 : g = g' := by simpa [Value.ownBlock] using e
          subst e2
          rw [hh] at hh'
          injection hh' with hh'
          injection hh' with _ hh'
          exact absurd hh' (by decide)
  refine ⟨by rw [List.length_append, List.length_singleton, msV_snoc hl]; exact hown, by simp [hl], fun k hk => ?_⟩
  rw [List.length_append, List.length_singleton] at hk
  by_cases hk2 : k < ms.length
  · have := hkeep _ _ (h.ents k hk2)
    rw [List.getElem_append_left hk2, List.getD_eq_getElem?_getD, List.getElem?_append_left (by omega), ← List.getD_eq_getElem?_getD]
    exact this
  · obtain rfl : k = ms.length := by omega
    have := hkeep (a1, cx) _ hx
    rw [List.getElem_append_right (Nat.le_refl _), List.getD_eq_getElem?_getD, List.getElem?_append_right (by omega)]
    simpa [hl] using this
section
variable {w : World} {b : Nat} {a : MA} {m : Mb}
set_option maxRecDepth 100000 in
set_option maxHeartbeats 6400000 in
theorem adds_any (h : MAt w b a m) (hok : MbOk m) : Calls Tryz.prog 64 #[.pointer (some ⟨b, 0, none⟩), .func (.func 67) #[.pointer (some ⟨b, 0, none⟩)] #[]] w (RetMs (Mb.toAll m.id m.addn m.prog.length) w) := by
  have n16 := hok.n16
  have HFN : Hid (∀ W, Below w.heap.size w W → ∀ j : Nat, j < m.prog.length → Calls Tryz.prog 67 #[.pointer (some ⟨b, 0, none⟩), .int .i64 ((j : Int) + 1)] W (RetM (m.addn ((j : Int) + 1)) W)) := fun W hW j hj => addn_at (h.below hW) hok j hj
  have HO := Lib.hid h
  obtain ⟨c0, c1, c2, c3, c4, c5, c6, c7, c8, c9, hlt⟩ := box10 h.blk
  generalize m.addn = f at HFN ⊢
  go_enter Tryz.func64, Tryz.ntmps64
  go_wp2
  clear c0 c1 c2 c3 c4 c5 c6 c7 c8 c9 hlt
  go_loopw [5, 13] (fun v i wr => ∃ (k : Nat) (A : Option Addr) (c : Nat) (sl : List (Option Addr × Nat)), k ≤ m.prog.length ∧ i = .int .i64 (k : Int) ∧ v = .slice A (Mb.toAll m.id f k).length c ∧ MsAt wr w.heap.size A c (Mb.toAll m.id f k) sl ∧ Below w.heap.size w wr) (fun _ i _ => m.prog.length - (intOf i).toNat)
  case atStart => exact ⟨0, none, 0, [], by omega, rfl, rfl, MsAt.nil _ _, below0 _⟩
  case round =>
    obtain ⟨k, A, c, sl, hk, rfl, rfl, hms, hb⟩ := hrel
    have H1 := HO.out.below hb
    obtain ⟨c0, c1, c2, c3, c4, c5, c6, c7, c8, c9, hlt⟩ := box10 H1.blk
    by_cases hlt : k < m.prog.length
    · have hk0 : (0 : Int) ≤ (k : Int) := by omega
      have hk1 : (k : Int) < (m.prog.length : Int) := by omega
      have hk2 : (k : Int) ≤ 16 := by omega
      by_cases hid : (k : Int) + 1 = m.id
      · have hid1 : (((k : Int) + 1) != m.id) = false := by rw [hid]; simp
        have HT : Hid (Mb.toAll m.id f (k + 1) = Mb.toAll m.id f k) := by rw [Hid, Mb.toAll, if_pos hid, List.append_nil]
        clear hid
        go_wp2
        go_roundw
        case rel => exact ⟨k + 1, A, c, sl, by omega, by go_num, by rw [HT.out], by rw [HT.out]; exact hms, hb⟩
        case measure => simp [intOf]; omega
      · have hid1 : (((k : Int) + 1) != m.id) = true := by simpa using hid
        have HT : Hid (Mb.toAll m.id f (k + 1) = Mb.toAll m.id f k ++ [f ((k : Int) + 1)]) := by rw [Hid, Mb.toAll, if_neg hid]
        have HFK := Lib.hid (HFN.out wr hb k hlt)
        have HL : Hid ((Mb.toAll m.id f k).length ≤ k) := toAll_le _ _ _
        have hL1 : (Mb.toAll m.id f k).length ≤ 16 := by have := HL.out; omega
        clear hid
        generalize f ((k : Int) + 1) = x at HT HFK
        generalize Mb.toAll m.id f k = ms at HT HL hL1 hms
        have hs := hb.size
        go_wp2_with (first
          | (go_at_call 67; refine HFK.out.mono ?_; rintro e w1 ⟨a1, cx1, rfl, own1, hb1⟩; have hms1 := hms.below hb1; have hwA := hb.trans (hb1.mono hs); have HNEW : Hid (RowAt (w1.alloc (.cells #[.int .i64 x.kind, .int .i64 x.frm, .int .i64 x.dst, .int .i64 x.term, .int .i64 x.index, .int .i64 x.lterm, .int .i64 x.commit, .bool x.yes, .slice a1 x.ents.length cx1] 70)) (some ⟨w1.heap.size, 0, none⟩) (x.cells a1 cx1)) := RowAt.new w1 #[.int .i64 x.kind, .int .i64 x.frm, .int .i64 x.dst, .int .i64 x.term, .int .i64 x.index, .int .i64 x.lterm, .int .i64 x.commit, .bool x.yes, .slice a1 x.ents.length cx1] 70; have hs1 := hwA.size)
          | (at_builtin; refine wpList_append_row rfl (.tmp 24) (.tmp 28) rfl elemM w.heap.size _ ms.length _ (by rfl) (own_below hms1.own (below1 w1 _)) (some ⟨w1.heap.size, 0, none⟩) 1 1 (x.cells a1 cx1) (by rfl) (by rfl) HNEW.out (msC_one x a1 cx1) (by unfold maxLen; omega) (by omega) (by simp; omega) (fun h => by cases h) ?_; intro A2 c2' w2 hown2 hg2 hat2; have hb2 := Below.appended (hwA.alloc hs1 (.cells #[.int .i64 x.kind, .int .i64 x.frm, .int .i64 x.dst, .int .i64 x.term, .int .i64 x.index, .int .i64 x.lterm, .int .i64 x.commit, .bool x.yes, .slice a1 x.ents.length cx1] 70)) (own_below hms1.own (below1 w1 _)) hg2 (by simp; omega) (Nat.le_refl _)))
        have hms2 : MsAt w2 w.heap.size A2 c2' (ms ++ [x]) (sl ++ [(a1, cx1)]) := MsAt.snoc hms1 (own_base own1 hs) (below1 w1 _) hown2 hg2
        go_roundw
        case rel => exact ⟨k + 1, A2, c2', sl ++ [(a1, cx1)], by omega, by go_num, by rw [HT.out]; simp, by rw [HT.out]; exact hms2, hb2⟩
        case measure => simp [intOf]; omega
    · have hk' : k = m.prog.length := by omega
      subst hk'
      go_wp2
      go_ret
      exact ⟨A, c, sl, rfl, hms, hb⟩
set_option maxRecDepth 100000 in
set_option maxHeartbeats 6400000 in
theorem asks_any (h : MAt w b a m) (hok : MbOk m) (Q : Nat) (hQ : w.heap[Q]? = some (.cells #[.pointer (some ⟨b, 0, none⟩)] 60)) : Calls Tryz.prog 64 #[.pointer (some ⟨b, 0, none⟩), .func (.func 65) #[] #[.pointer (some ⟨Q, 0, none⟩)]] w (RetMs (Mb.toAll m.id m.ask m.prog.length) w) := by
  have n16 := hok.n16
  have HFN : Hid (∀ W, Below w.heap.size w W → ∀ j : Nat, j < m.prog.length → Calls Tryz.prog 65 #[.int .i64 ((j : Int) + 1), .pointer (some ⟨Q, 0, none⟩)] W (RetM (m.ask ((j : Int) + 1)) W)) := fun W hW j hj => ask_at (h.below hW) Q (blk_keep hW hQ) _
  have HO := Lib.hid h
  obtain ⟨c0, c1, c2, c3, c4, c5, c6, c7, c8, c9, hlt⟩ := box10 h.blk
  generalize m.ask = f at HFN ⊢
  go_enter Tryz.func64, Tryz.ntmps64
  go_wp2
  clear c0 c1 c2 c3 c4 c5 c6 c7 c8 c9 hlt
  go_loopw [5, 13] (fun v i wr => ∃ (k : Nat) (A : Option Addr) (c : Nat) (sl : List (Option Addr × Nat)), k ≤ m.prog.length ∧ i = .int .i64 (k : Int) ∧ v = .slice A (Mb.toAll m.id f k).length c ∧ MsAt wr w.heap.size A c (Mb.toAll m.id f k) sl ∧ Below w.heap.size w wr) (fun _ i _ => m.prog.length - (intOf i).toNat)
  case atStart => exact ⟨0, none, 0, [], by omega, rfl, rfl, MsAt.nil _ _, below0 _⟩
  case round =>
    obtain ⟨k, A, c, sl, hk, rfl, rfl, hms, hb⟩ := hrel
    have H1 := HO.out.below hb
    obtain ⟨c0, c1, c2, c3, c4, c5, c6, c7, c8, c9, hlt⟩ := box10 H1.blk
    by_cases hlt : k < m.prog.length
    · have hk0 : (0 : Int) ≤ (k : Int) := by omega
      have hk1 : (k : Int) < (m.prog.length : Int) := by omega
      have hk2 : (k : Int) ≤ 16 := by omega
      by_cases hid : (k : Int) + 1 = m.id
      · have hid1 : (((k : Int) + 1) != m.id) = false := by rw [hid]; simp
        have HT : Hid (Mb.toAll m.id f (k + 1) = Mb.toAll m.id f k) := by rw [Hid, Mb.toAll, if_pos hid, List.append_nil]
        clear hid
        go_wp2
        go_roundw
        case rel => exact ⟨k + 1, A, c, sl, by omega, by go_num, by rw [HT.out], by rw [HT.out]; exact hms, hb⟩
        case measure => simp [intOf]; omega
      · have hid1 : (((k : Int) + 1) != m.id) = true := by simpa using hid
        have HT : Hid (Mb.toAll m.id f (k + 1) = Mb.toAll m.id f k ++ [f ((k : Int) + 1)]) := by rw [Hid, Mb.toAll, if_neg hid]
        have HFK := Lib.hid (HFN.out wr hb k hlt)
        have HL : Hid ((Mb.toAll m.id f k).length ≤ k) := toAll_le _ _ _
        have hL1 : (Mb.toAll m.id f k).length ≤ 16 := by have := HL.out; omega
        clear hid
        generalize f ((k : Int) + 1) = x at HT HFK
        generalize Mb.toAll m.id f k = ms at HT HL hL1 hms
        have hs := hb.size
        go_wp2_with (first
          | (go_at_call 65; refine HFK.out.mono ?_; rintro e w1 ⟨a1, cx1, rfl, own1, hb1⟩; have hms1 := hms.below hb1; have hwA := hb.trans (hb1.mono hs); have HNEW : Hid (RowAt (w1.alloc (.cells #[.int .i64 x.kind, .int .i64 x.frm, .int .i64 x.dst, .int .i64 x.term, .int .i64 x.index, .int .i64 x.lterm, .int .i64 x.commit, .bool x.yes, .slice a1 x.ents.length cx1] 70)) (some ⟨w1.heap.size, 0, none⟩) (x.cells a1 cx1)) := RowAt.new w1 #[.int .i64 x.kind, .int .i64 x.frm, .int .i64 x.dst, .int .i64 x.term, .int .i64 x.index, .int .i64 x.lterm, .int .i64 x.commit, .bool x.yes, .slice a1 x.ents.length cx1] 70; have hs1 := hwA.size)
          | (at_builtin; refine wpList_append_row rfl (.tmp 24) (.tmp 28) rfl elemM w.heap.size _ ms.length _ (by rfl) (own_below hms1.own (below1 w1 _)) (some ⟨w1.heap.size, 0, none⟩) 1 1 (x.cells a1 cx1) (by rfl) (by rfl) HNEW.out (msC_one x a1 cx1) (by unfold maxLen; omega) (by omega) (by simp; omega) (fun h => by cases h) ?_; intro A2 c2' w2 hown2 hg2 hat2; have hb2 := Below.appended (hwA.alloc hs1 (.cells #[.int .i64 x.kind, .int .i64 x.frm, .int .i64 x.dst, .int .i64 x.term, .int .i64 x.index, .int .i64 x.lterm, .int .i64 x.commit, .bool x.yes, .slice a1 x.ents.length cx1] 70)) (own_below hms1.own (below1 w1 _)) hg2 (by simp; omega) (Nat.le_refl _)))
        have hms2 : MsAt w2 w.heap.size A2 c2' (ms ++ [x]) (sl ++ [(a1, cx1)]) := MsAt.snoc hms1 (own_base own1 hs) (below1 w1 _) hown2 hg2
        go_roundw
        case rel => exact ⟨k + 1, A2, c2', sl ++ [(a1, cx1)], by omega, by go_num, by rw [HT.out]; simp, by rw [HT.out]; exact hms2, hb2⟩
        case measure => simp [intOf]; omega
    · have hk' : k = m.prog.length := by omega
      subst hk'
      go_wp2
      go_ret
      exact ⟨A, c, sl, rfl, hms, hb⟩
end
end Go.Proofs.YthjdbmfobmnnlaaGreat
