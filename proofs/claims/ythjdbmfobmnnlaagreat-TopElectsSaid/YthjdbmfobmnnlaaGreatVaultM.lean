/-
  The walk of a save that is taken.
-/
import Derived.Test.YthjdbmfobmnnlaaGreatBn
import Derived.Test.YthjdbmfobmnnlaaGreatBo
import Derived.Test.YthjdbmfobmnnlaaGreatBq
import Derived.Deep.CutBlock
namespace Go.Proofs.YthjdbmfobmnnlaaGreat
open Go.RowKit
set_option linter.unusedVariables false
/-- What a save holds at each step: the disk's block, the ballot's, the log's. -/
def SvAt (w : World) (V : Nat) (o0 o1 o2 : Obj) (W : World) : Prop := W.heap[V]? = some o0 ∧ W.heap[w.heap.size]? = some o1 ∧ W.heap[w.heap.size + 1]? = some o2 ∧ w.heap.size + 2 ≤ W.heap.size ∧ Below w.heap.size w W
theorem SvAt.keep {w W W' : World} {V : Nat} {o0 o1 o2 : Obj} (h : SvAt w V o0 o1 o2 W) (hV : V < w.heap.size) (hb : Below (w.heap.size + 2) W W') : SvAt w V o0 o1 o2 W' := by
  obtain ⟨h0, h1, h2, h3, h4⟩ := h
  exact ⟨by rw [hb.block V (by omega)]; exact h0, by rw [hb.block _ (by omega)]; exact h1, by rw [hb.block _ (by omega)]; exact h2, Nat.le_trans h3 hb.size, h4.trans (hb.mono (by omega))⟩
theorem SvAt.many {w W : World} {V : Nat} {o0 o1 o2 : Obj} (h : SvAt w V o0 o1 o2 W) (k : Nat) : SvAt w V o0 o1 o2 (W.drewN k) := ⟨h.1, h.2.1, h.2.2.1, h.2.2.2.1, Below.many h.2.2.2.2 k⟩
set_option maxRecDepth 100000 in
set_option maxHeartbeats 6400000 in
theorem save_good {P : Nat → Prop} (V base : Nat) (x : Vt) (t v bt : Int) (a : Option Addr) (cap : Nat) (l : List En) (w : World) (hP : ∀ y, w.heap.size ≤ y → P y) (h : VtAt w V base P x) (hV : V < base) (hb : base ≤ w.heap.size) (hl : LogIn w a cap l) (hwf : ∀ e ∈ l, EnWf e) (hx : VtOk x) (hl65 : x.1.length ≤ 65536) (h1 : mayV t v = true) (h2 : mayL 0 bt l = true) (h4 : ∀ e ∈ l, EnFair e) :
    Calls Tryz.prog 76 #[.pointer (some ⟨V, 0, none⟩), ballotV t v, logV 0 bt a l.length cap] w fun e w' => e = .returned (.int .i64 (saveE x t v 0 bt l)) ∧ VtAt w' V base P (saveV x t v 0 bt l) ∧ Only V w w' := by
  have HV : Hid (∀ W, Calls Tryz.prog 112 #[ballotV t v] W fun e w' => e = .returned (.bool (mayV t v)) ∧ Below W.heap.size W w') := fun W => mayV_any t v W
  have HL : Hid (∀ W, Below w.heap.size w W → Calls Tryz.prog 79 #[logV 0 bt a l.length cap] W fun e w' => e = .returned (.bool (mayL 0 bt l)) ∧ Below W.heap.size W w') := fun W h => may_any 0 bt a cap l W (hl.below h)
  have h5 : l.any oddE = false := (odd_fair h2).2 h4
  have hl64 := (mayL_true h2).2.2.2.2.2.1
  have hm0 : mayL 0 0 l = true := by
    obtain ⟨_, _, q1, _, q2, _⟩ := mayL_true h2
    have q3 := q2 rfl
    rwa [q3] at h2
  have HO : Hid (∀ W, Below w.heap.size w W → Calls Tryz.prog 121 #[.slice a l.length cap, .func (.func 122) #[] #[]] W fun e w' => e = .returned (.bool (l.any oddE)) ∧ Below W.heap.size W w') := fun W h => containsE_any a cap l W ((hl.below h).row) (by omega) hwf
  rw [h2] at HL
  rw [h1] at HV
  rw [h5] at HO
  have hVw : V < w.heap.size := by omega
  have hxs := hx.held
  have HE := Lib.hid (saveE_ok (x := x) ⟨h1, h2, rfl, h4⟩)
  have HVV := @saveV_eq x t v 0 bt l
  have HVN := @saveV_no x t v 0 bt l
  have hsb : saveB x.2.2 t v l = saveB x.2.2 t v l := rfl
  rw (config := { occs := .pos [2] }) [saveB] at hsb
  obtain ⟨D, cd, A, c, g, o1, o2, oP⟩ := h
  obtain ⟨bs, n0, t0, v0, es⟩ := x
  simp only at g o1 o2 hl65 hxs HE HVV HVN hsb
  have he64 := (mayL_true hxs.2).2.2.2.2.2.1
  simp only at he64
  have HC : Hid (∀ W, Below w.heap.size w W → Calls Tryz.prog 110 #[.slice D bs.length cd] W (RetRow 5 1 bs.length (bs.map byteV) W)) := fun W hW => cloneC_any D cd bs W ((show CellsB w D bs from RowAt.of_own o1).below hW) (own_none o1) (by omega)
  have HBAL := Lib.hid (recP_eq (ballot_rec h1))
  have hfb := (ballot_rec h1).2.2.2
  have HREC : Hid (∀ W (D7 : Option Addr) (c7 : Nat) (ys : List UInt8) (k : Int) (a2 : Option Addr) (c2 : Nat) (ns : List Int), W.ownsRow (w.heap.size + 2) 5 1 (.slice D7 ys.length c7) ys.length (ys.map byteV) → w.heap.size + 2 ≤ W.heap.size → IntsIn W a2 c2 ns → ys.length ≤ 1000000 → Calls Tryz.prog 123 #[.slice D7 ys.length c7, .int .i64 k, .slice a2 ns.length c2] W (RetOn (w.heap.size + 2) (ys ++ recP k ns) W)) := fun W D7 c7 ys k a2 c2 ns q1 q2 q3 q4 => record_any (w.heap.size + 2) D7 c7 ys k a2 c2 ns W q1 q2 q3 q4
  have HRO := Lib.hid (fun i hi => @ent_rec l hm0 i hi (h4 _ (List.getElem_mem hi)))
  obtain ⟨P, hP⟩ : ∃ P, P = commonN es l := ⟨_, rfl⟩
  rw [← hP] at hsb
  have HP := Lib.hid hP
  have hPs := commonN_spec es l
  rw [← hP] at hPs
  obtain ⟨hP1, hP2, hP3⟩ := hPs
  obtain ⟨Y1, hY1⟩ : ∃ Y1, Y1 = bs ++ (if t0 = t ∧ v0 = v then [] else recB 1 [t, v]) := ⟨_, rfl⟩
  have hY1l : Y1.length ≤ bs.length + 83 := by
    rw [hY1, List.length_append]
    by_cases hq : t0 = t ∧ v0 = v
    · rw [if_pos hq]; simp
    · rw [if_neg hq]; have := (rec_length (ballot_rec h1)).2; omega
  obtain ⟨Y2, hY2⟩ : ∃ Y2, Y2 = Y1 ++ (if P < es.length then recB 3 [((P : Nat) : Int)] else []) := ⟨_, rfl⟩
  have hY2l : Y2.length ≤ bs.length + 166 := by
    rw [hY2, List.length_append]
    by_cases hq : P < es.length
    · rw [if_pos hq]; have := (rec_length (left_rec (n := P) (by omega))).2; omega
    · rw [if_neg hq]; simp; omega
  have hY3 : bs ++ saveB (t0, v0, es) t v l = Y2 ++ entRecs P (l.drop P) := by rw [hsb, hY2, hY1]; simp only [List.append_assoc]
  have HY1 := Lib.hid hY1
  have HY2 := Lib.hid hY2
  have HY3 := Lib.hid hY3
  clear hsb hY1 hY2 hY3 hP h1 h2 h5 hx hxs h4 hm0
  have HINB : Hid (∀ W : World, IntsIn (W.alloc (.cells #[.int .i64 t, .int .i64 v] 3)) (some ⟨W.heap.size, 0, none⟩) 2 [t, v]) := fun W => ⟨RowAt.new W #[.int .i64 t, .int .i64 v] 3, by simp, by simp, fun n hn => wf_fair (hfb n hn)⟩
  have HINL : Hid (∀ W : World, IntsIn (W.alloc (.cells #[.int .i64 (P : Nat)] 3)) (some ⟨W.heap.size, 0, none⟩) 1 [((P : Nat) : Int)]) := fun W => ⟨RowAt.new W #[.int .i64 (P : Nat)] 3, by simp, by simp, fun n hn => wf_fair (by simp at hn; omega)⟩
  go_enter Tryz.func76, Tryz.ntmps76
  go_upto_region 4 with (first
    | (go_at_call 112; refine (HV.out _).mono ?_; rintro e w1 ⟨rfl, hb1⟩; have hw1 := (below2 w (.cells #[.int .i64 t, .int .i64 v] 114) (.cells #[.int .i64 0, .int .i64 bt, .slice a l.length cap] 37)).trans (hb1.mono (below2 w _ _).size); have g0 := blk_keep hb1 (alloc2_fst w (.cells #[.int .i64 t, .int .i64 v] 114) (.cells #[.int .i64 0, .int .i64 bt, .slice a l.length cap] 37)); have g1 := blk_keep hb1 (alloc2_snd w (.cells #[.int .i64 t, .int .i64 v] 114) (.cells #[.int .i64 0, .int .i64 bt, .slice a l.length cap] 37)); obtain ⟨b0, b1, bf0, bf1, blt⟩ := box2 g0; obtain ⟨l0, l1, l2, lf0, lf1, lf2, llt⟩ := box3 g1; have gV := blk_keep hw1 g; obtain ⟨d0, d1, d2, d3, d4, e0, e1, e2, e3, e4, dlt⟩ := box5 gV)
    | (go_at_call 79; refine (HL.out _ hw1).mono ?_; rintro e w2 ⟨rfl, hb2⟩; have hw2 := hw1.trans (hb2.mono hw1.size); have g02 := blk_keep hb2 g0; have g12 := blk_keep hb2 g1; obtain ⟨b0, b1, bf0, bf1, blt⟩ := box2 g02; obtain ⟨l0, l1, l2, lf0, lf1, lf2, llt⟩ := box3 g12; have gV := blk_keep hw2 g; obtain ⟨d0, d1, d2, d3, d4, e0, e1, e2, e3, e4, dlt⟩ := box5 gV)
    | (go_at_call 121; refine (HO.out _ hw2).mono ?_; rintro e w3 ⟨rfl, hb3⟩; have hw3 := hw2.trans (hb3.mono hw2.size); have g03 := blk_keep hb3 g02; have g13 := blk_keep hb3 g12; obtain ⟨b0, b1, bf0, bf1, blt⟩ := box2 g03; obtain ⟨l0, l1, l2, lf0, lf1, lf2, llt⟩ := box3 g13; have gV := blk_keep hw3 g; obtain ⟨d0, d1, d2, d3, d4, e0, e1, e2, e3, e4, dlt⟩ := box5 gV)
    | (go_at_call 110; refine (HC.out _ hw3).mono ?_; rintro e w4 ⟨D4, c4, rfl, own4, hb4⟩; have hs2 : w.heap.size + 2 ≤ w3.heap.size := llt; have hw4 := hw3.trans (hb4.mono hw3.size); have g04 := blk_keep hb4 g03; have g14 := blk_keep hb4 g13; have own4' := own_base (base' := w.heap.size + 2) own4 hs2; obtain ⟨b0, b1, bf0, bf1, blt⟩ := box2 g04; obtain ⟨l0, l1, l2, lf0, lf1, lf2, llt⟩ := box3 g14; have gV := blk_keep hw4 g; obtain ⟨d0, d1, d2, d3, d4, e0, e1, e2, e3, e4, dlt⟩ := box5 gV))
  have hw4s : w.heap.size + 2 ≤ w4.heap.size := llt
  have hsv4 : SvAt w V (.cells #[.slice D bs.length cd, .int .i64 (n0 : Nat), .int .i64 t0, .int .i64 v0, .slice A es.length c] 118) (.cells #[.int .i64 t, .int .i64 v] 114) (.cells #[.int .i64 0, .int .i64 bt, .slice a l.length cap] 37) w4 := ⟨gV, g04, g14, hw4s, hw4⟩
  go_cut [40] (fun b wx => ∃ (bq : Bool) (k : Nat), b = .bool bq ∧ Hid (bq = false ↔ (t0 = t ∧ v0 = v)) ∧ wx = w4.drewN k)
  case first =>
    by_cases hq1 : t = t0
    · subst hq1
      by_cases hq2 : v = v0
      · subst hq2
        go_wp2
        go_quiet (fail)
        go_wp2
        go_meet
        exact ⟨false, _, rfl, by rw [Hid]; simp, rfl⟩
      · have hq3 : (v == v0) = false := by rw [beq_eq_false_iff_ne]; exact hq2
        have HQ : Hid (true = false ↔ (t = t ∧ v0 = v)) := by rw [Hid]; simp; exact fun h => hq2 h.symm
        clear hq2
        go_wp2
        go_quiet (fail)
        go_wp2
        go_meet
        exact ⟨true, _, rfl, HQ, rfl⟩
    · have hq3 : (t == t0) = false := by rw [beq_eq_false_iff_ne]; exact hq1
      have HQ : Hid (true = false ↔ (t0 = t ∧ v0 = v)) := by rw [Hid]; simp; exact fun h => (hq1 h.symm).elim
      clear hq1
      go_wp2
      go_quiet (fail)
      go_wp2
      go_meet
      exact ⟨true, _, rfl, HQ, rfl⟩
  case rest =>
    obtain ⟨bq, k4, rfl, HQ, rfl⟩ := hcut
    clear b0 b1 bf0 bf1 blt l0 l1 l2 lf0 lf1 lf2 llt gV d0 d1 d2 d3 d4 e0 e1 e2 e3 e4 dlt
    replace hsv4 := hsv4.many k4
    replace own4' := own_many own4' k4
    replace hw4s : w.heap.size + 2 ≤ (w4.drewN k4).heap.size := hw4s
    clear own4 hb4 hw4 g04 g14
    generalize w4.drewN k4 = w4 at *
    go_upto_if 40 with fail
    go_cut [7] (fun d wx => ∃ D7 c7, d = .slice D7 Y1.length c7 ∧ wx.ownsRow (w.heap.size + 2) 5 1 (.slice D7 Y1.length c7) Y1.length (Y1.map byteV) ∧ SvAt w V (.cells #[.slice D bs.length cd, .int .i64 (n0 : Nat), .int .i64 t0, .int .i64 v0, .slice A es.length c] 118) (.cells #[.int .i64 t, .int .i64 v] 114) (.cells #[.int .i64 0, .int .i64 bt, .slice a l.length cap] 37) wx)
    case first =>
      obtain ⟨gV, g0, g1, _, hwW⟩ := id hsv4
      obtain ⟨b0, b1, bf0, bf1, blt⟩ := box2 g0
      cases bq with
      | false =>
        have hYb : Y1 = bs := by rw [HY1.out, if_pos (HQ.out.1 rfl)]; simp
        go_wp2
        go_meet
        rw [hYb]
        exact ⟨D4, c4, rfl, own4', hsv4⟩
      | true =>
        have hYb : Y1 = bs ++ recP 1 [t, v] := by rw [HY1.out, if_neg (fun h => by have := HQ.out.2 h; cases this), HBAL.out]
        have HYB := Lib.hid hYb
        clear hYb
        go_wp2_with (go_at_call 123; refine (HREC.out _ D4 c4 bs 1 (some ⟨w4.heap.size, 0, none⟩) 2 [t, v] (own_below own4' (below1 _ _)) (Nat.le_trans hw4s (below1 _ _).size) (HINB.out _) (by omega)).mono ?_; rintro e w5 ⟨D5, c5, rfl, own5, hb5⟩)
        go_meet
        rw [HYB.out]
        exact ⟨D5, c5, by rw [List.length_append], own5, hsv4.keep hVw (Below.trans (Below.mono (below1 _ _) hw4s) hb5)⟩
    case rest =>
      obtain ⟨D7, c7, rfl, own7, hsv7⟩ := hcut
      obtain ⟨w7, hw7⟩ : ∃ q, q = wc := ⟨_, rfl⟩
      subst hw7
      go_upto_block 0 with fail
      go_cut [8] (fun n wx => n = .int .i64 (P : Nat) ∧ Below w7.heap.size w7 wx)
      case first =>
        obtain ⟨gV, g0, g1, _, hwW⟩ := id hsv7
        go_wp2
        go_loopw [8] (fun i wr => ∃ k : Nat, k ≤ es.length ∧ k ≤ l.length ∧ i = .int .i64 k ∧ Hid (es.take k = l.take k) ∧ Below w7.heap.size w7 wr) (fun i _ => es.length - (intOf i).toNat)
        case atStart => exact ⟨0, by omega, by omega, rfl, rfl, below0 _⟩
        case round =>
          obtain ⟨k, hk1, hk2, rfl, HT, hbr⟩ := hrel
          obtain ⟨d0, d1, d2, d3, d4, e0, e1, e2, e3, e4, dlt⟩ := box5 (blk_keep hbr gV)
          obtain ⟨l0, l1, l2, lf0, lf1, lf2, llt⟩ := box3 (blk_keep hbr g1)
          have hwr := hwW.trans (hbr.mono hwW.size)
          have HKP : Hid ((k < es.length → k < l.length → es[k]? ≠ l[k]?) → k = P) := fun h => (HP.out.trans (commonN_eq hk1 hk2 HT.out h)).symm
          by_cases hlt : k < es.length ∧ k < l.length
          · obtain ⟨hlt1, hlt2⟩ := hlt
            obtain ⟨eb, eoff, rfl, hebl, c0, c1, c2, c3, c4, c5, c6⟩ := entry_cells ((RowAt.of_own o2).below hwr) hlt1
            obtain ⟨lb, loff, rfl, hlbl, f0, f1, f2, f3, f4, f5, f6⟩ := entry_cells (hl.row.below hwr) hlt2
            have HG : Hid (es[k]'hlt1 = l[k]'hlt2 → es.take (k + 1) = l.take (k + 1)) := take_eq_go hlt1 hlt2 HT.out
            have HN : Hid (es[k]'hlt1 ≠ l[k]'hlt2 → k = P) := fun h => HKP.out (fun _ _ => by rw [List.getElem?_eq_getElem hlt1, List.getElem?_eq_getElem hlt2]; exact fun e => h (Option.some.inj e))
            generalize (es[k]'hlt1) = x at c0 c1 c2 c3 c4 c5 c6 HG HN
            generalize (l[k]'hlt2) = y at f0 f1 f2 f3 f4 f5 f6 HG HN
            obtain ⟨x0, x1, x2, x3, x4, x5, x6⟩ := x
            obtain ⟨y0, y1, y2, y3, y4, y5, y6⟩ := y
            simp only at c0 c1 c2 c3 c4 c5 c6 f0 f1 f2 f3 f4 f5 f6
            have hk0 : (0 : Int) ≤ (k : Int) := by omega
            have hke : (k : Int) < (es.length : Int) := by omega
            have hkl : (k : Int) < (l.length : Int) := by omega
            have hmin : (k : Int) < min (l.length : Int) (es.length : Int) := by omega
            have HW := wrap_id (x := (k : Int) + 1) (by omega) (by omega)
            by_cases hxy : (x0, x1, x2, x3, x4, x5, x6) = (y0, y1, y2, y3, y4, y5, y6)
            · have HG2 := Lib.hid (HG.out hxy)
              simp only [Prod.mk.injEq] at hxy
              obtain ⟨rfl, rfl, rfl, rfl, rfl, rfl, rfl⟩ := hxy
              clear HN HG HKP
              go_wp2
              go_quiet (fail)
              go_wp2
              exact ⟨⟨k + 1, by omega, by omega, by simp, HG2, Below.many hbr _⟩, by simp [intOf]; omega⟩
            · have HNE := Lib.hid (HN.out hxy)
              have HXY := Lib.hid hxy
              clear hxy HN HG HKP
              by_cases h0 : y0 = x0
              rotate_left 1
              · have hq : (y0 == x0) = false := by simpa using h0
                clear h0
                go_wp2
                go_quiet (fail)
                go_wp2
                go_meet
                exact ⟨by rw [HNE.out], Below.many hbr _⟩
              subst h0
              by_cases h1 : y1 = x1
              rotate_left 1
              · have hq : (y1 == x1) = false := by simpa using h1
                clear h1
                go_wp2
                go_quiet (fail)
                go_wp2
                go_meet
                exact ⟨by rw [HNE.out], Below.many hbr _⟩
              subst h1
              by_cases h2 : y2 = x2
              rotate_left 1
              · have hq : (y2 == x2) = false := by simpa using h2
                clear h2
                go_wp2
                go_quiet (fail)
                go_wp2
                go_meet
                exact ⟨by rw [HNE.out], Below.many hbr _⟩
              subst h2
              by_cases h3 : y3 = x3
              rotate_left 1
              · have hq : (y3 == x3) = false := by simpa using h3
                clear h3
                go_wp2
                go_quiet (fail)
                go_wp2
                go_meet
                exact ⟨by rw [HNE.out], Below.many hbr _⟩
              subst h3
              by_cases h4 : y4 = x4
              rotate_left 1
              · have hq : (y4 == x4) = false := by simpa using h4
                clear h4
                go_wp2
                go_quiet (fail)
                go_wp2
                go_meet
                exact ⟨by rw [HNE.out], Below.many hbr _⟩
              subst h4
              by_cases h5 : y5 = x5
              rotate_left 1
              · have hq : (y5 == x5) = false := by simpa using h5
                clear h5
                go_wp2
                go_quiet (fail)
                go_wp2
                go_meet
                exact ⟨by rw [HNE.out], Below.many hbr _⟩
              subst h5
              by_cases h6 : y6 = x6
              rotate_left 1
              · have hq : (y6 == x6) = false := by simpa using h6
                clear h6
                go_wp2
                go_quiet (fail)
                go_wp2
                go_meet
                exact ⟨by rw [HNE.out], Below.many hbr _⟩
              subst h6
              exact (HXY.out rfl).elim
          · have hkp := HKP.out (fun a b => (hlt ⟨a, b⟩).elim)
            have HNE := Lib.hid hkp
            clear hkp HKP
            by_cases hle : l.length ≤ es.length
            · have hmn : min (l.length : Int) (es.length : Int) = (l.length : Int) := by omega
              have hnk : ¬ k < l.length := by omega
              have hnk2 : (l.length : Int) ≤ (k : Int) := by omega
              go_wp2
              go_quiet (fail)
              go_wp2
              go_meet
              exact ⟨by rw [HNE.out], Below.many hbr _⟩
            · have hmn : min (l.length : Int) (es.length : Int) = (es.length : Int) := by omega
              have hnk : ¬ k < es.length := by omega
              have hnk2 : (es.length : Int) ≤ (k : Int) := by omega
              go_wp2
              go_quiet (fail)
              go_wp2
              go_meet
              exact ⟨by rw [HNE.out], Below.many hbr _⟩
      case rest =>
        obtain ⟨rfl, hb7⟩ := hcut
        have own8 := own_below own7 hb7
        have hsv8 := hsv7.keep hVw (hb7.mono hsv7.2.2.2.1)
        obtain ⟨w8, hw8⟩ : ∃ q, q = wc := ⟨_, rfl⟩
        subst hw8
        clear own7 hsv7 hb7 hsv4 own4' HC
        obtain ⟨gV, g0, g1, hs8, hwW⟩ := id hsv8
        obtain ⟨d0, d1, d2, d3, d4, e0, e1, e2, e3, e4, dlt⟩ := box5 gV
        obtain ⟨l0, l1, l2, lf0, lf1, lf2, llt⟩ := box3 g1
        go_upto_if 85 with fail
        go_cut [7] (fun d wx => ∃ D9 c9, d = .slice D9 Y2.length c9 ∧ wx.ownsRow (w.heap.size + 2) 5 1 (.slice D9 Y2.length c9) Y2.length (Y2.map byteV) ∧ SvAt w V (.cells #[.slice D bs.length cd, .int .i64 (n0 : Nat), .int .i64 t0, .int .i64 v0, .slice A es.length c] 118) (.cells #[.int .i64 t, .int .i64 v] 114) (.cells #[.int .i64 0, .int .i64 bt, .slice a l.length cap] 37) wx)
        case first =>
          by_cases hq : P < es.length
          · have hYb : Y2 = Y1 ++ recP 3 [((P : Nat) : Int)] := by rw [HY2.out, if_pos hq, recP_eq (left_rec (n := P) (by omega))]
            have HYB := Lib.hid hYb
            clear hYb
            have hq2 : (P : Int) < (es.length : Int) := by omega
            go_wp2_with (go_at_call 123; refine (HREC.out _ D7 c7 Y1 3 (some ⟨w8.heap.size, 0, none⟩) 1 [((P : Nat) : Int)] (own_below own8 (below1 _ _)) (Nat.le_trans hs8 (below1 _ _).size) (HINL.out _) (by omega)).mono ?_; rintro e w9 ⟨D9, c9, rfl, own9, hb9⟩)
            go_meet
            rw [HYB.out]
            exact ⟨D9, c9, by rw [List.length_append], own9, hsv8.keep hVw (Below.trans (Below.mono (below1 _ _) hs8) hb9)⟩
          · have hYb : Y2 = Y1 := by rw [HY2.out, if_neg hq]; simp
            have hq2 : (es.length : Int) ≤ (P : Int) := by omega
            go_wp2
            go_meet
            rw [hYb]
            exact ⟨D7, c7, rfl, own8, hsv8⟩
        case rest =>
          obtain ⟨D9, c9, rfl, own9, hsv9⟩ := hcut
          obtain ⟨w9, hw9⟩ : ∃ q, q = wc := ⟨_, rfl⟩
          subst hw9
          clear own8 hsv8 gV g0 g1 hs8 hwW d0 d1 d2 d3 d4 e0 e1 e2 e3 e4 dlt l0 l1 l2 lf0 lf1 lf2 llt
          have hs1 : ∀ W, (Instr.slice 34 (.slice a l.length cap) (some (.int .i64 (P : Nat))) none none).run Tryz.prog W = .ok (.slice (cutS a cap P 7) (l.length - P) (cap - P)) W := fun W => slice_fromS (P := Tryz.prog) elemE a l.length cap P hP2 W
          have hrow := hl.row.cutS cap P 7 (by rw [ensV_length]; exact Nat.mul_le_mul_right _ hl.cap)
          rw [ensV_drop] at hrow
          obtain ⟨es2, hes2⟩ : ∃ es2, es2 = l.drop P := ⟨_, rfl⟩
          have hlen : es2.length = l.length - P := by rw [hes2]; exact List.length_drop
          rw [← hes2] at hrow
          have HRO2 : Hid (∀ j (hj : j < es2.length), RecOk 2 (numsOf ((P : Int) + (j : Int) + 1) (es2[j]'hj))) := fun j hj => by
            have := HRO.out (P + j) (by omega)
            have e : es2[j]'hj = l[P + j]'(by omega) := by simp [hes2]
            rw [e]
            rwa [show (((P + j + 1 : Nat) : Int)) = (P : Int) + (j : Int) + 1 by omega] at this
          rw [← hes2] at HY3
          rw [← hlen] at hs1
          obtain ⟨Y3, hY3⟩ : ∃ Y3, Y3 = Y2 ++ entRecs P es2 := ⟨_, rfl⟩
          have HY3b : Hid (Y3 = Y2 ++ entRecs P es2) := hY3
          have HE64 : Hid (es2.length ≤ 64) := by rw [Hid]; omega
          have h264 := HE64.out
          have hP64 : P ≤ 64 := by omega
          obtain ⟨gV, g0, g1, hs9, hwW⟩ := id hsv9
          obtain ⟨l0, l1, l2, lf0, lf1, lf2, llt⟩ := box3 g1
          generalize cutS a cap P 7 = a9 at hs1 hrow
          generalize cap - P = cp9 at hs1
          have HLEN := Lib.hid hlen
          clear hY3 hlen
          go_upto_block 2 with fail
          go_cut [7] (fun d wx => ∃ D10 c10, d = .slice D10 Y3.length c10 ∧ wx.ownsRow (w.heap.size + 2) 5 1 (.slice D10 Y3.length c10) Y3.length (Y3.map byteV) ∧ Y3.length ≤ 100000 ∧ SvAt w V (.cells #[.slice D bs.length cd, .int .i64 (n0 : Nat), .int .i64 t0, .int .i64 v0, .slice A es.length c] 118) (.cells #[.int .i64 t, .int .i64 v] 114) (.cells #[.int .i64 0, .int .i64 bt, .slice a l.length cap] 37) wx)
          case first =>
            go_wp2
            go_loopw [7, 95] (fun d i wr => ∃ (k : Nat) (Z : List UInt8) (Dz : Option Addr) (cz : Nat), k ≤ es2.length ∧ i = .int .i64 k ∧ d = .slice Dz Z.length cz ∧ Hid (Z = Y2 ++ entRecs P (es2.take k)) ∧ Z.length ≤ bs.length + 166 + k * 83 ∧ wr.ownsRow (w.heap.size + 2) 5 1 (.slice Dz Z.length cz) Z.length (Z.map byteV) ∧ SvAt w V (.cells #[.slice D bs.length cd, .int .i64 (n0 : Nat), .int .i64 t0, .int .i64 v0, .slice A es.length c] 118) (.cells #[.int .i64 t, .int .i64 v] 114) (.cells #[.int .i64 0, .int .i64 bt, .slice a l.length cap] 37) wr) (fun _ i _ => es2.length - (intOf i).toNat)
            case atStart => exact ⟨0, Y2, D9, c9, by omega, rfl, rfl, by rw [Hid]; simp [entRecs], by omega, own9, hsv9⟩
            case round =>
              obtain ⟨k, Z, Dz, cz, hk, rfl, rfl, HZ, hZl, ownz, hsvz⟩ := hrel
              by_cases hlt : k < es2.length
              · obtain ⟨eb, eoff, rfl, hebl, x0, x1, x2, x3, x4, x5, x6⟩ := entry_cells (hrow.below hsvz.2.2.2.2) hlt
                have hro := HRO2.out k hlt
                have hrl := (rec_length hro).2
                have HNUM : Hid (∀ W, Calls Tryz.prog 124 #[.int .i64 ((P : Int) + (k : Int) + 1), entA (es2[k]'hlt)] W (RetRow 3 1 8 ((numsOf ((P : Int) + (k : Int) + 1) (es2[k]'hlt)).map intV) W)) := fun W => numbers_any _ _ W
                have HZ2 : Hid (Z ++ recP 2 (numsOf ((P : Int) + (k : Int) + 1) (es2[k]'hlt)) = Y2 ++ entRecs P (es2.take (k + 1))) := by
                  rw [Hid, recP_eq hro, HZ.out, List.take_add_one, List.getElem?_eq_getElem hlt, Option.toList_some, entRecs_snoc, List.length_take, Nat.min_eq_left (Nat.le_of_lt hlt), List.append_assoc, show ((P + k + 1 : Nat) : Int) = (P : Int) + (k : Int) + 1 by omega]
                have HZL : Hid ((Z ++ recP 2 (numsOf ((P : Int) + (k : Int) + 1) (es2[k]'hlt))).length ≤ bs.length + 166 + (k + 1) * 83) := by
                  rw [Hid, List.length_append, recP_eq hro]; omega
                have HF := Lib.hid hro.2.2.2
                have HW1 := wrap_id (x := (P : Int) + (k : Int)) (by omega) (by omega)
                have HW2 := wrap_id (x := (P : Int) + (k : Int) + 1) (by omega) (by omega)
                have HW3 := wrap_id (x := (k : Int) + 1) (by omega) (by omega)
                have hk0 : (0 : Int) ≤ (k : Int) := by omega
                have hk1 : (k : Int) < (es2.length : Int) := by omega
                have hlt' : k < l.length - P := by rw [← HLEN.out]; exact hlt
                clear hro hrl
                generalize (es2[k]'hlt) = x at x0 x1 x2 x3 x4 x5 x6 HNUM HZ2 HZL HF
                obtain ⟨y0, y1, y2, y3, y4, y5, y6⟩ := x
                unfold entA at HNUM
                simp only at x0 x1 x2 x3 x4 x5 x6 HNUM
                go_wp2_with (first
                  | (go_at_call 124; refine (HNUM.out _).mono ?_; rintro e w11 ⟨a11, c11, rfl, own11, hb11⟩; have hbb := (below1 wr (.cells #[.int .i64 y0, .int .i64 y1, .int .i64 y2, .int .i64 y3, .int .i64 y4, .int .i64 y5, .int .i64 y6] 82)).trans (hb11.mono (below1 wr _).size); have hsz := hbb.size)
                  | (go_at_call 123; refine (HREC.out _ Dz cz Z 2 a11 c11 (numsOf ((P : Int) + (k : Int) + 1) (y0, y1, y2, y3, y4, y5, y6)) (own_below ownz hbb) (Nat.le_trans hsvz.2.2.2.1 hsz) ⟨RowAt.of_own own11, own_le' own11, own_none own11, fun n hn => wf_fair (HF.out n hn)⟩ (by omega)).mono ?_; rintro e w12 ⟨D12, c12, rfl, own12, hb12⟩))
                exact ⟨⟨k + 1, Z ++ recP 2 (numsOf ((P : Int) + (k : Int) + 1) (y0, y1, y2, y3, y4, y5, y6)), D12, c12, by omega, by simp, by rw [List.length_append], HZ2, HZL.out, own12, hsvz.keep hVw ((hbb.mono hsvz.2.2.2.1).trans hb12)⟩, by simp [intOf]; omega⟩
              · have hkk : k = es2.length := by omega
                have hlt' : ¬ k < l.length - P := by rw [← HLEN.out]; exact hlt
                have hk1 : (es2.length : Int) ≤ (k : Int) := by omega
                have hzy : Z = Y3 := by rw [HZ.out, HY3b.out, hkk, List.take_length]
                go_wp2
                go_meet
                rw [hzy] at ownz hZl
                rw [hzy]
                exact ⟨Dz, cz, rfl, ownz, by omega, hsvz⟩
          case rest =>
            obtain ⟨D10, c10, rfl, own10, hY3l, hsv10⟩ := hcut
            obtain ⟨w10, hw10⟩ : ∃ q, q = wc := ⟨_, rfl⟩
            subst hw10
            rw [HY3.out, ← HY3b.out] at HE
            have HSAV : Hid (bs ++ saveB (t0, v0, es) t v l = Y3) := by rw [Hid, HY3.out, HY3b.out]
            clear own9 hsv9 gV g0 g1 hs9 hwW l0 l1 l2 lf0 lf1 lf2 llt
            obtain ⟨gV, g0, g1, hs10, hwW⟩ := id hsv10
            obtain ⟨d0, d1, d2, d3, d4, e0, e1, e2, e3, e4, dlt⟩ := box5 gV
            obtain ⟨b0, b1, bf0, bf1, blt⟩ := box2 g0
            obtain ⟨l0, l1, l2, lf0, lf1, lf2, llt⟩ := box3 g1
            by_cases hbig : 65536 < Y3.length
            · rw [if_pos hbig] at HE
              have hbig2 : (65536 : Int) < (Y3.length : Int) := by omega
              go_wp2
              go_ret
              rw [HE.out, HVN (by rw [HE.out]; decide)]
              exact ⟨rfl, ⟨D, cd, A, c, gV, own_below o1 hwW, own_below o2 hwW, oP⟩, Only.of_below hwW⟩
            · rw [if_neg hbig] at HE
              have hbig2 : (Y3.length : Int) ≤ 65536 := by omega
              have HCE : Hid (∀ W, Below w.heap.size w W → Calls Tryz.prog 80 #[.slice a l.length cap] W (RetRow 82 7 l.length (ensV l) W)) := fun W hW => clone_any a cap l W (hl.below hW) (by omega)
              have hne0 : w.heap.size ≠ V := by omega
              have hne1 : w.heap.size + 1 ≠ V := by omega
              go_wp2
              go_region_held3 (fun W => W.cell? ⟨w.heap.size, 0, none⟩ = some (.int .i64 t) ∧ W.cell? ⟨w.heap.size, 1, none⟩ = some (.int .i64 v) ∧ W.cell? ⟨w.heap.size + 1, 2, none⟩ = some (.slice a l.length cap)) (first | with_reducible exact ⟨b0, b1, l2⟩ | with_reducible exact ⟨q0, q1, q2⟩ | with_reducible exact ⟨p0, p1, p2⟩ | with_reducible exact ⟨k0, k1, k2⟩ | go_keep) ((go_at_call 80; refine (HCE.out _ hwW.drew).mono ?_; rintro e w11 ⟨A11, c11, rfl, own11, hb11⟩; have G0 := blk_keep hb11 (blk_drawn g0); have G1 := blk_keep hb11 (blk_drawn g1); have GV := blk_keep hb11 (blk_drawn gV); have own10' := own_below (own_drawn own10) hb11; have hw11 := hwW.drew.trans (hb11.mono hwW.size); obtain ⟨k0, k1, kf0, kf1, klt⟩ := box2 G0; obtain ⟨_, _, k2, _, _, _, klt1⟩ := box3 G1; obtain ⟨d0, d1, d2, d3, d4, e0, e1, e2, e3, e4, dlt⟩ := box5 GV; have P0 := blk_far (i := 0) G0 hne0 (.slice D10 Y3.length c10); have P1 := blk_far (i := 0) G1 hne1 (.slice D10 Y3.length c10); obtain ⟨p0, p1, _⟩ := box2 P0; obtain ⟨_, _, p2, _⟩ := box3 P1; have Q0 := blk_far (i := 4) (blk_far (i := 3) (blk_far (i := 2) P0 hne0 (.int .i64 t)) hne0 (.int .i64 v)) hne0 (.slice A11 l.length c11); have Q1 := blk_far (i := 4) (blk_far (i := 3) (blk_far (i := 2) P1 hne1 (.int .i64 t)) hne1 (.int .i64 v)) hne1 (.slice A11 l.length c11); obtain ⟨q0, q1, _⟩ := box2 Q0; obtain ⟨_, _, q2, _⟩ := box3 Q1))
              all_goals go_wp2
              all_goals go_ret
              all_goals rw [HE.out, HVV HE.out]
              all_goals (
                refine ⟨rfl, ⟨D10, c10, A11, c11, ?_, ?_, ?_, fun y hy => (List.mem_append.1 hy).elim (fun q => hP y (by have := (own_blk own10' y q).1; omega)) (fun q => hP y (by have h1 := (own_blk own11 y q).1; have h2 := hwW.size; exact Nat.le_trans h2 h1))⟩, ((((Only.of_below hw11).setCell 0 _).setCell 2 _).setCell 3 _).setCell 4 _⟩
                · simp only [HSAV.out]
                  exact blk_set (i := 4) (blk_set (i := 3) (blk_set (i := 2) (blk_set (i := 0) GV (.slice D10 Y3.length c10)) (.int .i64 t)) (.int .i64 v)) (.slice A11 l.length c11)
                · simp only [HSAV.out]
                  exact ownsRow_setCell_below (ownsRow_setCell_below (ownsRow_setCell_below (ownsRow_setCell_below (own_base (base' := base) own10' (by omega)) (a := ⟨V, 0, none⟩) hV _) (a := ⟨V, 2, none⟩) hV _) (a := ⟨V, 3, none⟩) hV _) (a := ⟨V, 4, none⟩) hV _
                · exact ownsRow_setCell_below (ownsRow_setCell_below (ownsRow_setCell_below (ownsRow_setCell_below (own_base (base' := base) own11 (Nat.le_trans hb hwW.size)) (a := ⟨V, 0, none⟩) hV _) (a := ⟨V, 2, none⟩) hV _) (a := ⟨V, 3, none⟩) hV _) (a := ⟨V, 4, none⟩) hV _)
end Go.Proofs.YthjdbmfobmnnlaaGreat
