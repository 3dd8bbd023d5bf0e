/-
  A member is told what to add, and adds it.
-/
import Derived.Test.YthjdbmfobmnnlaaGreatRaftN
namespace Go.Proofs.YthjdbmfobmnnlaaGreat
open Go.RowKit
set_option linter.unusedVariables false
section
variable {w : World} {b : Nat} {a : MA} {m : Mb}
set_option maxRecDepth 100000 in
set_option maxHeartbeats 6400000 in
theorem add_yes (h : MAt w b a m) (hok : MbOk m) (xk xf xd xt xi xl xc : Int) (xy : Bool) (xe : List En) (am : Option Addr) (cm : Nat) (hl : LogIn w am cm xe) (hs : xe.length ≤ 1000000) (ho : m.term ≤ xt) (hr : m.role ≠ 2) (hdis : xe.length ≠ 0 → ∀ x ∈ blkOf am, x ∉ foot b a) (he : (addF 0 0 m.log xi xl xe).2.2.2 = 0) (hodd : (xe.any fun e => decide (xt < e.1)) = false) :
    Calls Tryz.prog 73 #[.pointer (some ⟨b, 0, none⟩), .agg #[.int .i64 xk, .int .i64 xf, .int .i64 xd, .int .i64 xt, .int .i64 xi, .int .i64 xl, .int .i64 xc, .bool xy, .slice am xe.length cm]] w (RetR (m.added' (addF 0 0 m.log xi xl xe).2.2.1 ⟨xk, xf, xd, xt, xi, xl, xc, xy, xe⟩) [{ m.say 3 xf with yes := true, index := xi + xe.length }] b a w) := by
  have HS : Hid (∀ W, Below w.heap.size w W → Calls Tryz.prog 66 #[.pointer (some ⟨b, 0, none⟩), .int .i64 3, .int .i64 xf] W fun e w' => e = .returned (.agg #[.int .i64 3, .int .i64 m.id, .int .i64 xf, .int .i64 m.term, .int .i64 0, .int .i64 0, .int .i64 0, .bool false, .slice none 0 0]) ∧ Below W.heap.size W w') := fun W hW => say_any (h.below hW) 3 xf
  have hr1 : (m.role == 2) = false := by simpa using hr
  have hlb : xe.length ≠ 0 → ∀ x ∈ blkOf am, x ≠ b := fun h0 x hx e => hdis h0 x hx (e ▸ foot_b b a)
  have hll : xe.length ≠ 0 → ∀ x ∈ blkOf am, x ≠ w.heap.size + 1 := fun h0 x hx => by have := hl.lt h0 x hx; omega
  clear hr hdis
  obtain ⟨hm1, hm2, hi0, hi1, hm5, hm6, hR⟩ := addF_ok he
  have hlf := (mergeL_facts m.log xe xi.toNat (by omega)).1
  have hi2 : xi + xe.length ≤ 64 := by omega
  have hok64 := hok.len64
  have hse := hok.set0
  have hse2 := hok.set64
  generalize mergeL m.log xi.toNat xe = ml at hR
  clear hm1 hm2 hm5 hm6 hlf he
  rw [hR]
  have HRR := Lib.hid hR
  clear hR
  have HO := Lib.hid h
  have HLI := Lib.hid hl
  clear hl
  have hal := below2 w (.cells #[.int .i64 xk, .int .i64 xf, .int .i64 xd, .int .i64 xt, .int .i64 xi, .int .i64 xl, .int .i64 xc, .bool xy, .slice am xe.length cm] 70) (.cells #[.int .i64 0, .int .i64 0, .slice none 0 0] 37)
  have gx := alloc2_fst w (.cells #[.int .i64 xk, .int .i64 xf, .int .i64 xd, .int .i64 xt, .int .i64 xi, .int .i64 xl, .int .i64 xc, .bool xy, .slice am xe.length cm] 70) (.cells #[.int .i64 0, .int .i64 0, .slice none 0 0] 37)
  have gl := alloc2_snd w (.cells #[.int .i64 xk, .int .i64 xf, .int .i64 xd, .int .i64 xt, .int .i64 xi, .int .i64 xl, .int .i64 xc, .bool xy, .slice am xe.length cm] 70) (.cells #[.int .i64 0, .int .i64 0, .slice none 0 0] 37)
  obtain ⟨x0, x1, x2, x3, x4, x5, x6, x7, x8⟩ := box9 gx
  go_enter Tryz.func73, Tryz.ntmps73
  go_wp2
  refine scope_fwd 0 rfl ?_
  go_wp2_with (go_at_call 66; refine (HS.out _ hal).mono ?_; rintro e w1 ⟨rfl, hb1⟩; have hw1 := hal.trans (hb1.mono hal.size); have gX0 := blk_keep hb1 gx; have gL0 := blk_keep hb1 gl)
  have hwA := hw1.trans ((below1 w1 (.cells #[.int .i64 3, .int .i64 m.id, .int .i64 xf, .int .i64 m.term, .int .i64 0, .int .i64 0, .int .i64 0, .bool false, .slice none 0 0] 70)).mono hw1.size)
  have gX := blk_keep (below1 w1 (.cells #[.int .i64 3, .int .i64 m.id, .int .i64 xf, .int .i64 m.term, .int .i64 0, .int .i64 0, .int .i64 0, .bool false, .slice none 0 0] 70)) gX0
  have gL := blk_keep (below1 w1 (.cells #[.int .i64 3, .int .i64 m.id, .int .i64 xf, .int .i64 m.term, .int .i64 0, .int .i64 0, .int .i64 0, .bool false, .slice none 0 0] 70)) gL0
  have G1 := blk_new w1 (.cells #[.int .i64 3, .int .i64 m.id, .int .i64 xf, .int .i64 m.term, .int .i64 0, .int .i64 0, .int .i64 0, .bool false, .slice none 0 0] 70)
  have hltL := blk_lt gL0
  have hnx := h.new (Nat.le_refl w.heap.size)
  have hnl := h.new (Nat.le_succ w.heap.size)
  have hn1 : w1.heap.size ∉ foot b a := h.new hw1.size
  have hF1 : w.heap.size ≤ w1.heap.size := hw1.size
  clear hb1 hw1 gX0 gL0 gx gl hal x0 x1 x2 x3 x4 x5 x6 x7 x8
  generalize w1.alloc (.cells #[.int .i64 3, .int .i64 m.id, .int .i64 xf, .int .i64 m.term, .int .i64 0, .int .i64 0, .int .i64 0, .bool false, .slice none 0 0] 70) = W1 at *
  generalize w1.heap.size = F1 at *
  have hbF : b ≠ F1 := fun e => hn1 (e ▸ foot_b b a)
  have hbX : b ≠ w.heap.size := fun e => hnx (e ▸ foot_b b a)
  have hbL : b ≠ w.heap.size + 1 := fun e => hnl (e ▸ foot_b b a)
  have hFX : w.heap.size ≠ F1 := by omega
  have hFL : w.heap.size + 1 ≠ F1 := by omega
  have H1 := HO.out.below hwA
  have S1 : Step w b a W1 a := .of_below hwA
  obtain ⟨x0, x1, x2, x3, x4, x5, x6, x7, x8⟩ := box9 gX
  obtain ⟨c0, c1, c2, c3, c4, c5, c6, c7, c8, c9, hlt⟩ := box10 H1.blk
  have flt := blk_lt gX
  go_quiet (fail)
  replace H1 := H1.many nq
  replace S1 := S1.many nq
  replace gX := blk_many gX nq
  replace gL := blk_many gL nq
  replace G1 := blk_many G1 nq
  replace hwA := Below.many hwA nq
  clear x0 x1 x2 x3 x4 x5 x6 x7 x8 c0 c1 c2 c3 c4 c5 c6 c7 c8 c9 hlt flt
  generalize W1.drewN nq = W1 at *
  obtain ⟨x0, x1, x2, x3, x4, x5, x6, x7, x8⟩ := box9 gX
  obtain ⟨c0, c1, c2, c3, c4, c5, c6, c7, c8, c9, hlt⟩ := box10 H1.blk
  have flt := blk_lt gX
  obtain ⟨fr0, fr1, fr2, fr3, fr4, fr5, fr6, fr7, fr8, fr9⟩ := fro9 H1.blk
  go_wp2
  have H2 : MAt (W1.setCell ⟨b, 6, none⟩ (.int .i64 0)) b a { m with role := 0 } := H1.store 6 (.int .i64 0) (m' := { m with role := 0 }) rfl rfl rfl rfl
  have S2 : Step w b a (W1.setCell ⟨b, 6, none⟩ (.int .i64 0)) a := S1.store 6 _
  have gX2 : (W1.setCell ⟨b, 6, none⟩ (.int .i64 0)).heap[w.heap.size]? = _ := blk_far gX (Ne.symm hbX) _
  have gL2 : (W1.setCell ⟨b, 6, none⟩ (.int .i64 0)).heap[w.heap.size + 1]? = _ := blk_far gL (Ne.symm hbL) _
  have G2 : (W1.setCell ⟨b, 6, none⟩ (.int .i64 0)).heap[F1]? = _ := blk_far G1 (Ne.symm hbF) _
  have hl2 : LogIn (W1.setCell ⟨b, 6, none⟩ (.int .i64 0)) am cm xe := (HLI.out.below hwA).store hlb 6 _
  clear x0 x1 x2 x3 x4 x5 x6 x7 x8 c0 c1 c2 c3 c4 c5 c6 c7 c8 c9 hlt flt fr0 fr1 fr2 fr3 fr4 fr5 fr6 fr7 fr8 fr9 H1 S1 gX gL G1
  generalize W1.setCell ⟨b, 6, none⟩ (.int .i64 0) = W2 at *
  obtain ⟨x0, x1, x2, x3, x4, x5, x6, x7, x8⟩ := box9 gX2
  obtain ⟨c0, c1, c2, c3, c4, c5, c6, c7, c8, c9, hlt⟩ := box10 H2.blk
  have flt := blk_lt gX2
  have HA2 : Hid (Calls Tryz.prog 120 #[logV 0 0 a.la m.log.length a.lc, .int .i64 xi, .int .i64 xl, .slice am xe.length cm] W2.drew (RetLogO (addF 0 0 m.log xi xl xe) W2.drew)) := addO_any 0 0 a.la a.lc m.log xi xl am cm xe W2.drew (LogIn.of_own H2.drew.log) (hl2.below (below0 _).drew) hs
  have HX2 := Lib.hid hl2
  clear hl2
  rw [HRR.out] at HA2
  clear HRR
  go_cut [5, 6] (fun p q wx => ∃ a3 ca3, p = .pointer (some ⟨w.heap.size + 1, 0, none⟩) ∧ q = .int .i64 0 ∧ wx.heap[w.heap.size + 1]? = some (.cells #[.int .i64 0, .int .i64 0, .slice a3 ml.length ca3] 37) ∧ wx.heap[w.heap.size]? = some (.cells #[.int .i64 xk, .int .i64 xf, .int .i64 xd, .int .i64 xt, .int .i64 xi, .int .i64 xl, .int .i64 xc, .bool xy, .slice am xe.length cm] 70) ∧ wx.heap[F1]? = some (.cells #[.int .i64 3, .int .i64 m.id, .int .i64 xf, .int .i64 m.term, .int .i64 0, .int .i64 0, .int .i64 0, .bool false, .slice none 0 0] 70) ∧ MAt wx b a { m with role := 0 } ∧ Step w b a wx a ∧ LogIn wx am cm xe ∧ W2.heap.size ≤ wx.heap.size ∧ wx.ownsRow W2.heap.size 82 7 (.slice a3 ml.length ca3) ml.length (ensV ml))
  case first =>
    go_region_held3 (fun W => W.cell? ⟨b, 3, none⟩ = some (.int .i64 0) ∧ W.cell? ⟨b, 4, none⟩ = some (.int .i64 0) ∧ W.cell? ⟨b, 5, none⟩ = some (.slice a.la m.log.length a.lc) ∧ W.cell? ⟨w.heap.size, 4, none⟩ = some (.int .i64 xi) ∧ W.cell? ⟨w.heap.size, 5, none⟩ = some (.int .i64 xl) ∧ W.cell? ⟨w.heap.size, 8, none⟩ = some (.slice am xe.length cm)) (first | with_reducible exact ⟨c3, c4, c5, x4, x5, x8⟩ | with_reducible exact ⟨d3, d4, d5, y4, y5, y8⟩ | with_reducible exact ⟨k3, k4, k5, j4, j5, j8⟩ | go_keep) ((go_at_call 120; refine HA2.out.mono ?_; rintro e w3 ⟨a3, ca3, rfl, own3, hb3⟩; have H3 := H2.drew.below hb3; have gX3 := blk_keep hb3 (blk_drawn gX2); have gL3 := blk_keep hb3 (blk_drawn gL2); have G3 := blk_keep hb3 (blk_drawn G2); have hl3 := (HX2.out.below (below0 _).drew).below hb3; have S3 := (S2.drew).below hb3; obtain ⟨l0, l1, l2, lf0, lf1, lf2, llt⟩ := box3 gL3; obtain ⟨y0, y1, y2, y3, y4, y5, y6, y7, y8⟩ := box9 gX3; obtain ⟨d0, d1, d2, d3, d4, d5, d6, d7, d8, d9, dlt⟩ := box10 H3.blk; obtain ⟨j0, j1, j2, j3, j4, j5, j6, j7, j8⟩ := box9 (set3_far gX3 (show w.heap.size ≠ w.heap.size + 1 by omega) (.int .i64 0) (.int .i64 0) (.slice a3 ml.length ca3)); obtain ⟨k0, k1, k2, k3, k4, k5, k6, k7, k8, k9, klt⟩ := box10 (set3_far H3.blk hbL (.int .i64 0) (.int .i64 0) (.slice a3 ml.length ca3)); have hsz3 := hb3.size))
    all_goals (go_wp2_with fail; go_meet)
    all_goals exact ⟨a3, ca3, rfl, rfl, set3_blk gL3 _ _ _, set3_far gX3 (by omega) _ _ _, set3_far G3 (by omega) _ _ _, ((H3.far hnl _ _).far hnl _ _).far hnl _ _, ((S3.fresh (Nat.le_succ _) _ _).fresh (Nat.le_succ _) _ _).fresh (Nat.le_succ _) _ _, ((hl3.store hll _ _).store hll _ _).store hll _ _, by simpa [World.setCell] using hsz3, own_set3 own3 (by have := blk_lt gL2; exact this) _ _ _⟩
  case rest =>
    obtain ⟨a3, ca3, rfl, rfl, gL4, gX4, G4, H4, S4, hl4, hsz4, own4⟩ := hcut
    clear x0 x1 x2 x3 x4 x5 x6 x7 x8 c0 c1 c2 c3 c4 c5 c6 c7 c8 c9 hlt flt
    obtain ⟨x0, x1, x2, x3, x4, x5, x6, x7, x8⟩ := box9 gX4
    obtain ⟨l0, l1, l2, lf0, lf1, lf2, llt⟩ := box3 gL4
    obtain ⟨y0, y1, y2, y3, y4, y5, y6, y7, y8⟩ := box9 G4
    obtain ⟨fs0, fs1, fs2, fs3, fs4, fs5, fs6, fs7, fs8, fs9⟩ := fro9 G4
    obtain ⟨c0, c1, c2, c3, c4, c5, c6, c7, c8, c9, hlt⟩ := box10 H4.blk
    obtain ⟨fr0, fr1, fr2, fr3, fr4, fr5, fr6, fr7, fr8, fr9⟩ := fro9 H4.blk
    have flt := blk_lt gX4
    have glt := blk_lt G4
    have HX4 := Lib.hid hl4
    clear hl4
    have HCT := Lib.hid (mcontainsE_any am cm xe w.heap.size xt _ HX4.out hs x3 flt)
    rw [hodd] at HCT
    clear hodd
    go_wp2_with (go_at_call 121; refine HCT.out.mono ?_; rintro e w4 ⟨rfl, hb4⟩; have H5 := H4.below hb4; have S5 := S4.below hb4; have G5 := blk_keep hb4 G4; have gL5 := blk_keep hb4 gL4; have gX5 := blk_keep hb4 gX4; have own5 := own_below own4 hb4; have hsz5 := Nat.le_trans hsz4 hb4.size; obtain ⟨l0, l1, l2, lf0, lf1, lf2, llt⟩ := box3 gL5; obtain ⟨fr0, fr1, fr2, fr3, fr4, fr5, fr6, fr7, fr8, fr9⟩ := fro9 H5.blk; obtain ⟨d0, d1, d2, d3, d4, d5, d6, d7, d8, d9, dlt⟩ := box10 H5.blk; obtain ⟨y0, y1, y2, y3, y4, y5, y6, y7, y8⟩ := box9 G5; obtain ⟨fs0, fs1, fs2, fs3, fs4, fs5, fs6, fs7, fs8, fs9⟩ := fro9 G5; obtain ⟨x0, x1, x2, x3, x4, x5, x6, x7, x8⟩ := box9 gX5; have glt := blk_lt G5; have flt := blk_lt gX5)
    have H6 := H5.newLog H2.lt own5
    have S6 := S5.newLog own5 (by have := S2.chg.size; exact this) (.int .i64 0) (.int .i64 0) (.slice a3 ml.length ca3)
    have gX6 : (set3' w4 b (.int .i64 0) (.int .i64 0) (.slice a3 ml.length ca3)).heap[w.heap.size]? = _ := blk_far (blk_far (blk_far gX5 (Ne.symm hbX) _) (Ne.symm hbX) _) (Ne.symm hbX) _
    have G6 : (set3' w4 b (.int .i64 0) (.int .i64 0) (.slice a3 ml.length ca3)).heap[F1]? = _ := blk_far (blk_far (blk_far G5 (Ne.symm hbF) _) (Ne.symm hbF) _) (Ne.symm hbF) _
    have hnF6 : F1 ∉ foot b { a with la := a3, lc := ca3 } := S5.newLog own5 (by have := S2.chg.size; exact this) (.int .i64 0) (.int .i64 0) (.slice a3 ml.length ca3) |>.sub F1 |> fun q hq => by
      simp only [foot, List.cons_append, List.nil_append, List.mem_cons] at hq
      rcases hq with e | e | e | e
      · exact hbF e.symm
      · exact hn1 (e ▸ foot_v b a)
      · exact hn1 (e ▸ foot_o b a)
      · have := (own_blk own5 F1 e).1
        have := blk_lt G2
        omega
    clear l0 l1 l2 lf0 lf1 lf2 llt fr0 fr1 fr2 fr3 fr4 fr5 fr6 fr7 fr8 fr9 d0 d1 d2 d3 d4 d5 d6 d7 d8 d9 dlt y0 y1 y2 y3 y4 y5 y6 y7 y8 fs0 fs1 fs2 fs3 fs4 fs5 fs6 fs7 fs8 fs9 x0 x1 x2 x3 x4 x5 x6 x7 x8 glt flt c0 c1 c2 c3 c4 c5 c6 c7 c8 c9 hlt H5 S5 gX5 gL5 G5 own5 hsz5
    simp only [set3'] at H6 S6 gX6 G6
    generalize ((w4.setCell ⟨b, 3, none⟩ (.int .i64 0)).setCell ⟨b, 4, none⟩ (.int .i64 0)).setCell ⟨b, 5, none⟩ (.slice a3 ml.length ca3) = W6 at *
    obtain ⟨y0, y1, y2, y3, y4, y5, y6, y7, y8⟩ := box9 G6
    obtain ⟨fs0, fs1, fs2, fs3, fs4, fs5, fs6, fs7, fs8, fs9⟩ := fro9 G6
    obtain ⟨x0, x1, x2, x3, x4, x5, x6, x7, x8⟩ := box9 gX6
    have glt := blk_lt G6
    have flt := blk_lt gX6
    have hwr : IntKind.i64.wrap (xi + (xe.length : Int)) = xi + (xe.length : Int) := wrap_id (by omega) (by omega)
    go_cut [8] (fun p wx => p = .pointer (some ⟨F1, 0, none⟩) ∧ wx.heap[F1]? = some (.cells #[.int .i64 3, .int .i64 m.id, .int .i64 xf, .int .i64 m.term, .int .i64 (xi + (xe.length : Int)), .int .i64 0, .int .i64 0, .bool true, .slice none 0 0] 70) ∧ wx.heap[w.heap.size]? = some (.cells #[.int .i64 xk, .int .i64 xf, .int .i64 xd, .int .i64 xt, .int .i64 xi, .int .i64 xl, .int .i64 xc, .bool xy, .slice am xe.length cm] 70) ∧ MAt wx b { a with la := a3, lc := ca3 } { m with role := 0, log := ml } ∧ Step w b a wx { a with la := a3, lc := ca3 })
    case first =>
      go_region_law (fail)
      all_goals (go_wp2_with fail; go_meet)
      all_goals (
        have q1 := blk_set (i := 4) (blk_set (i := 7) G6 (.bool true)) (.int .i64 (xi + (xe.length : Int)))
        have q2 := blk_far (i := 4) (blk_far (i := 7) gX6 hFX (.bool true)) hFX (.int .i64 (xi + (xe.length : Int)))
        have q3 := ((H6.far hnF6 7 (.bool true)).far hnF6 4 (.int .i64 (xi + (xe.length : Int)))).drew
        have q4 := ((S6.fresh hF1 7 (.bool true)).fresh hF1 4 (.int .i64 (xi + (xe.length : Int)))).drew
        exact ⟨rfl, q1, q2, q3, q4⟩)
    case rest =>
      obtain ⟨rfl, G7, gX7, H7, S7⟩ := hcut
      clear y0 y1 y2 y3 y4 y5 y6 y7 y8 fs0 fs1 fs2 fs3 fs4 fs5 fs6 fs7 fs8 fs9 x0 x1 x2 x3 x4 x5 x6 x7 x8 glt flt hwr
      obtain ⟨y0, y1, y2, y3, y4, y5, y6, y7, y8⟩ := box9 G7
      obtain ⟨x0, x1, x2, x3, x4, x5, x6, x7, x8⟩ := box9 gX7
      obtain ⟨c0, c1, c2, c3, c4, c5, c6, c7, c8, c9, hlt⟩ := box10 H7.blk
      obtain ⟨fr0, fr1, fr2, fr3, fr4, fr5, fr6, fr7, fr8, fr9⟩ := fro9 H7.blk
      have glt := blk_lt G7
      have flt := blk_lt gX7
      go_wp2
      go_still_tail 13, (by kernel_rfl)
      show wpList _ _ _ _ _ wc.drew
      go_wp2
      go_step3
      have H8 : MAt (wc.setCell ⟨b, 7, none⟩ (.int .i64 (max m.settled (min xc (xi + (xe.length : Int)))))).drew b { a with la := a3, lc := ca3 } { m with role := 0, log := ml, settled := max m.settled (min xc (xi + (xe.length : Int))) } := (H7.store 7 (.int .i64 (max m.settled (min xc (xi + (xe.length : Int))))) (m' := { m with role := 0, log := ml, settled := max m.settled (min xc (xi + (xe.length : Int))) }) rfl rfl rfl rfl).drew
      have S8 := (S7.store 7 (.int .i64 (max m.settled (min xc (xi + (xe.length : Int)))))).drew
      refine (by assumption : ∀ (a : Act) (w : World), _ → _) _ _ ?_
      go_wp2
      go_ret
      exact RetR.oneN ⟨3, m.id, xf, m.term, xi + xe.length, 0, 0, true, []⟩ H8 S8 (World.ownsRow_nil _ _ _ _) rfl (by simp [World.setCell])
end
theorem add_any {w : World} {b : Nat} {a : MA} {m : Mb} (h : MAt w b a m) (hok : MbOk m) (x : Ms) (am : Option Addr) (cm : Nat) (hl : LogIn w am cm x.ents) (hs : x.ents.length ≤ 1000000) (hdis : x.ents.length ≠ 0 → ∀ y ∈ blkOf am, y ∉ foot b a) :
    Calls Tryz.prog 73 #[.pointer (some ⟨b, 0, none⟩), x.val am cm] w (RetR (m.add x).1 (m.add x).2 b a w) := by
  obtain ⟨xk, xf, xd, xt, xi, xl, xc, xy, xe⟩ := x
  simp only at hl hs hdis
  unfold Mb.add
  by_cases h1 : xt < m.term
  · rw [if_pos h1]
    exact add_old h hok xk xf xd xt xi xl xc xy xe am cm hl hs h1
  rw [if_neg h1]
  by_cases h2 : m.role = 2
  · rw [if_pos h2]
    exact add_lead h hok xk xf xd xt xi xl xc xy xe am cm hl hs (by omega) h2
  rw [if_neg h2]
  by_cases h3 : (addF 0 0 m.log xi xl xe).2.2.2 = 0
  · by_cases h4 : (xe.any fun e => decide (xt < e.1)) = true
    · rw [if_pos (.inr h4)]
      exact add_odd h hok xk xf xd xt xi xl xc xy xe am cm hl hs (by omega) h2 hdis h3 h4
    · rw [if_neg (fun hc => hc.elim (fun q => q h3) h4)]
      exact add_yes h hok xk xf xd xt xi xl xc xy xe am cm hl hs (by omega) h2 hdis h3 (by simpa using h4)
  · rw [if_pos (.inl h3)]
    exact add_err h hok xk xf xd xt xi xl xc xy xe am cm hl hs (by omega) h2 hdis h3
end Go.Proofs.YthjdbmfobmnnlaaGreat
