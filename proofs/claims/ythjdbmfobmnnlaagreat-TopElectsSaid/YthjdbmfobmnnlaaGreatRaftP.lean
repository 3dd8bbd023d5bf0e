/-
  A member is told what another one has added.
-/
import Derived.Test.YthjdbmfobmnnlaaGreatBh
namespace Go.Proofs.YthjdbmfobmnnlaaGreat
open Go.RowKit
set_option linter.unusedVariables false
theorem RetR.oneB {w w1 w' : World} {b B : Nat} {a a' : MA} {m' : Mb} (x : Ms) {A : Option Addr} {c : Nat} (h : MAt w1 b a' m') (hs : Step w b a w1 a') (hB : w.heap.size ≤ B) (hF : ∀ x ∈ foot b a', x < B) (he : w1.ownsRow B 82 7 (.slice A x.ents.length c) x.ents.length (ensV x.ents)) (hB1 : B ≤ w1.heap.size)
    (hw : w' = w1.alloc (.cells #[.int .i64 x.kind, .int .i64 x.frm, .int .i64 x.dst, .int .i64 x.term, .int .i64 x.index, .int .i64 x.lterm, .int .i64 x.commit, .bool x.yes, .slice A x.ents.length c] 70)) : RetR m' [x] b a w (.returned (.slice (some ⟨w1.heap.size, 0, none⟩) 1 1)) w' := by
  subst hw
  exact ⟨a', B, _, 1, _, rfl, h.below (below1 _ _), hs.below (below1 _ _), hB, hF, MsAt.one x A c hB1 he⟩
section
variable {w : World} {b : Nat} {a : MA} {m : Mb}
set_option maxRecDepth 100000 in
set_option maxHeartbeats 6400000 in
theorem added_no (h : MAt w b a m) (hok : MbOk m) (xk xd xt xi xl xc : Int) (j : Nat) (hj : j < m.prog.length) (xy : Bool) (xe : List En) (am : Option Addr) (cm : Nat) (hwi : -9223372036854775808 ≤ xi ∧ xi ≤ 9223372036854775807) (hno : m.role ≠ 2 ∨ xt ≠ m.term) :
    Calls Tryz.prog 74 #[.pointer (some ⟨b, 0, none⟩), .agg #[.int .i64 xk, .int .i64 ((j : Int) + 1), .int .i64 xd, .int .i64 xt, .int .i64 xi, .int .i64 xl, .int .i64 xc, .bool xy, .slice am xe.length cm]] w (RetR m [] b a w) := by
  have hal := below1 w (.cells #[.int .i64 xk, .int .i64 ((j : Int) + 1), .int .i64 xd, .int .i64 xt, .int .i64 xi, .int .i64 xl, .int .i64 xc, .bool xy, .slice am xe.length cm] 70)
  have gX := blk_new w (.cells #[.int .i64 xk, .int .i64 ((j : Int) + 1), .int .i64 xd, .int .i64 xt, .int .i64 xi, .int .i64 xl, .int .i64 xc, .bool xy, .slice am xe.length cm] 70)
  have HA := Lib.hid (h.below hal)
  have hnx := h.new (Nat.le_refl w.heap.size)
  have S0 : Step w b a (w.alloc (.cells #[.int .i64 xk, .int .i64 ((j : Int) + 1), .int .i64 xd, .int .i64 xt, .int .i64 xi, .int .i64 xl, .int .i64 xc, .bool xy, .slice am xe.length cm] 70)) a := .of_below hal
  obtain ⟨c0, c1, c2, c3, c4, c5, c6, c7, c8, c9, hlt⟩ := box10 (h.below hal).blk
  obtain ⟨x0, x1, x2, x3, x4, x5, x6, x7, x8⟩ := box9 gX
  have flt := blk_lt gX
  have n16 := hok.n16
  have hj0 : (0 : Int) ≤ (j : Int) := by omega
  have hj1 : (j : Int) < (m.prog.length : Int) := by omega
  have hj2 : (j : Int) + 1 ≤ 16 := by omega
  have hwr0 : IntKind.i64.wrap (j : Int) = (j : Int) := wrap_id (by omega) (by omega)
  have hcase : (m.role != 2) = true ∨ ((m.role != 2) = false ∧ (xt != m.term) = true) := by
    by_cases h1 : m.role = 2
    · right
      rcases hno with h3 | h3
      · exact (h3 h1).elim
      · exact ⟨by simp [h1], by simpa using h3⟩
    · left; simpa using h1
  clear hno
  rcases hcase with h1 | ⟨h1, h2⟩
  · go_enter Tryz.func74, Tryz.ntmps74
    go_wp2
    go_quiet (fail)
    go_wp2
    go_ret
    exact RetR.nil (HA.out.many _) (S0.many _)
  · go_enter Tryz.func74, Tryz.ntmps74
    go_wp2
    go_quiet (fail)
    go_wp2
    go_ret
    exact RetR.nil (HA.out.many _) (S0.many _)
set_option maxRecDepth 100000 in
set_option maxHeartbeats 6400000 in
theorem added_back (h : MAt w b a m) (hok : MbOk m) (xk xd xt xi xl xc : Int) (j : Nat) (hj : j < m.prog.length) (xe : List En) (am : Option Addr) (cm : Nat) (hwi : -9223372036854775808 ≤ xi ∧ xi ≤ 9223372036854775807) (hr : m.role = 2) (ht : xt = m.term)  :
    Calls Tryz.prog 74 #[.pointer (some ⟨b, 0, none⟩), .agg #[.int .i64 xk, .int .i64 ((j : Int) + 1), .int .i64 xd, .int .i64 xt, .int .i64 xi, .int .i64 xl, .int .i64 xc, .bool false, .slice am xe.length cm]] w (RetR (m.back ⟨xk, (j : Int) + 1, xd, xt, xi, xl, xc, false, xe⟩) [(m.back ⟨xk, (j : Int) + 1, xd, xt, xi, xl, xc, false, xe⟩).addn ((j : Int) + 1)] b a w) := by
  have hal := below1 w (.cells #[.int .i64 xk, .int .i64 ((j : Int) + 1), .int .i64 xd, .int .i64 xt, .int .i64 xi, .int .i64 xl, .int .i64 xc, .bool false, .slice am xe.length cm] 70)
  have gX := blk_new w (.cells #[.int .i64 xk, .int .i64 ((j : Int) + 1), .int .i64 xd, .int .i64 xt, .int .i64 xi, .int .i64 xl, .int .i64 xc, .bool false, .slice am xe.length cm] 70)
  have HA := Lib.hid (h.below hal)
  have hnx := h.new (Nat.le_refl w.heap.size)
  have S0 : Step w b a (w.alloc (.cells #[.int .i64 xk, .int .i64 ((j : Int) + 1), .int .i64 xd, .int .i64 xt, .int .i64 xi, .int .i64 xl, .int .i64 xc, .bool false, .slice am xe.length cm] 70)) a := .of_below hal
  obtain ⟨c0, c1, c2, c3, c4, c5, c6, c7, c8, c9, hlt⟩ := box10 (h.below hal).blk
  obtain ⟨x0, x1, x2, x3, x4, x5, x6, x7, x8⟩ := box9 gX
  have flt := blk_lt gX
  have n16 := hok.n16
  have hj0 : (0 : Int) ≤ (j : Int) := by omega
  have hj1 : (j : Int) < (m.prog.length : Int) := by omega
  have hj2 : (j : Int) + 1 ≤ 16 := by omega
  have hwr0 : IntKind.i64.wrap (j : Int) = (j : Int) := wrap_id (by omega) (by omega)
  have h1 : (m.role != 2) = false := by simp [hr]
  have h2 : (xt != m.term) = false := by simp [ht]
  have hlive := hok.live (by omega)
  clear hr ht
  have HBK : Hid (m.back ⟨xk, (j : Int) + 1, xd, xt, xi, xl, xc, false, xe⟩ = m.setPr ((j : Int) + 1) ((m.prAt ((j : Int) + 1)).1, max 1 (min ((m.prAt ((j : Int) + 1)).2 - 2) xi + 1))) := rfl
  have HOKB := Lib.hid (hok.back ⟨xk, (j : Int) + 1, xd, xt, xi, xl, xc, false, xe⟩)
  have HLB : Hid (j < (m.back ⟨xk, (j : Int) + 1, xd, xt, xi, xl, xc, false, xe⟩).prog.length) := by rw [HBK.out]; unfold Hid Mb.setPr; simpa using hj
  generalize m.back ⟨xk, (j : Int) + 1, xd, xt, xi, xl, xc, false, xe⟩ = mb at *
  have hpa := hok.prAt ((j : Int) + 1)
  obtain ⟨pv0, pv1⟩ := prV_at hj
  rw [← prAt_at hj] at pv0 pv1
  have HP0 := Lib.hid pv0
  have HP1 := Lib.hid pv1
  clear pv0 pv1
  go_enter Tryz.func74, Tryz.ntmps74
  go_wp2
  go_quiet (fail)
  have H1 := HA.out.many nq
  have g1 := blk_many gX nq
  have S1 := S0.many nq
  clear c0 c1 c2 c3 c4 c5 c6 c7 c8 c9 hlt x0 x1 x2 x3 x4 x5 x6 x7 x8 flt HA S0 gX hal
  generalize (w.alloc (.cells #[.int .i64 xk, .int .i64 ((j : Int) + 1), .int .i64 xd, .int .i64 xt, .int .i64 xi, .int .i64 xl, .int .i64 xc, .bool false, .slice am xe.length cm] 70)).drewN nq = W1 at *
  obtain ⟨c0, c1, c2, c3, c4, c5, c6, c7, c8, c9, hlt⟩ := box10 H1.blk
  obtain ⟨x0, x1, x2, x3, x4, x5, x6, x7, x8⟩ := box9 g1
  have flt := blk_lt g1
  go_wp2
  go_quiet (fail)
  have H2 := H1.many nq
  have g2 := blk_many g1 nq
  have S2 := S1.many nq
  clear c0 c1 c2 c3 c4 c5 c6 c7 c8 c9 hlt x0 x1 x2 x3 x4 x5 x6 x7 x8 flt H1 S1 g1 hwr0
  generalize W1.drewN nq = W2 at *
  obtain ⟨c0, c1, c2, c3, c4, c5, c6, c7, c8, c9, hlt⟩ := box10 H2.blk
  obtain ⟨x0, x1, x2, x3, x4, x5, x6, x7, x8⟩ := box9 g2
  have flt := blk_lt g2
  have o0 := own_cell H2.prog HP0.out
  have o1 := own_cell H2.prog HP1.out
  have fo0 := own_frozen H2.prog (j * 2)
  have fo1 := own_frozen H2.prog (j * 2 + 1)
  have olt := (own_blk H2.prog a.oa (by simp [blkOf])).2
  have hsn := fun x => H2.drew.setNext j hj x
  have HSN := Lib.hid hsn
  clear hsn
  generalize m.prAt ((j : Int) + 1) = P at *
  obtain ⟨P1, P2⟩ := P
  simp only at hpa HBK HP0 HP1 HSN o0 o1
  obtain ⟨hp1, hp2, hp3, hp4⟩ := hpa
  obtain ⟨hwi1, hwi2⟩ := hwi
  have hwr1 : IntKind.i64.wrap (P2 - 2) = P2 - 2 := wrap_id (by omega) (by omega)
  have hwr2 : IntKind.i64.wrap (min (P2 - 2) xi + 1) = min (P2 - 2) xi + 1 := wrap_id (by omega) (by omega)
  go_wp2
  go_still_tail 13, (by kernel_rfl)
  show wpList _ _ _ _ _ W2.drew
  have H3 := HSN.out (max 1 (min (P2 - 2) xi + 1))
  rw [← HBK.out] at H3
  have S3 := (S2.drew).storeO (j * 2 + 1) (.int .i64 (max 1 (min (P2 - 2) xi + 1)))
  have g3 : (W2.drew.setCell ⟨a.oa, j * 2 + 1, none⟩ (.int .i64 (max 1 (min (P2 - 2) xi + 1)))).heap[w.heap.size]? = _ := blk_far (blk_drawn g2) (fun e => hnx (e ▸ foot_o b a)) _
  have HAD := Lib.hid (addn_at H3 HOKB.out j HLB.out)
  have hne : w.heap.size ≠ a.oa := fun e => hnx (e ▸ foot_o b a)
  go_wp2_with (go_at_call 67; refine HAD.out.mono ?_; rintro e w4 ⟨a4, c4', rfl, own4, hb4⟩)
  go_ret
  exact RetR.oneB (mb.addn ((j : Int) + 1)) (H3.below hb4) (S3.below hb4) S3.chg.size H3.lt own4 hb4.size rfl
set_option maxRecDepth 100000 in
set_option maxHeartbeats 6400000 in
theorem added_neg (h : MAt w b a m) (hok : MbOk m) (xk xd xt xi xl xc : Int) (j : Nat) (hj : j < m.prog.length) (xe : List En) (am : Option Addr) (cm : Nat) (hwi : -9223372036854775808 ≤ xi ∧ xi ≤ 9223372036854775807) (hr : m.role = 2) (ht : xt = m.term) (hi : xi < 0)  :
    Calls Tryz.prog 74 #[.pointer (some ⟨b, 0, none⟩), .agg #[.int .i64 xk, .int .i64 ((j : Int) + 1), .int .i64 xd, .int .i64 xt, .int .i64 xi, .int .i64 xl, .int .i64 xc, .bool true, .slice am xe.length cm]] w (RetR m [] b a w) := by
  have hal := below1 w (.cells #[.int .i64 xk, .int .i64 ((j : Int) + 1), .int .i64 xd, .int .i64 xt, .int .i64 xi, .int .i64 xl, .int .i64 xc, .bool true, .slice am xe.length cm] 70)
  have gX := blk_new w (.cells #[.int .i64 xk, .int .i64 ((j : Int) + 1), .int .i64 xd, .int .i64 xt, .int .i64 xi, .int .i64 xl, .int .i64 xc, .bool true, .slice am xe.length cm] 70)
  have HA := Lib.hid (h.below hal)
  have hnx := h.new (Nat.le_refl w.heap.size)
  have S0 : Step w b a (w.alloc (.cells #[.int .i64 xk, .int .i64 ((j : Int) + 1), .int .i64 xd, .int .i64 xt, .int .i64 xi, .int .i64 xl, .int .i64 xc, .bool true, .slice am xe.length cm] 70)) a := .of_below hal
  obtain ⟨c0, c1, c2, c3, c4, c5, c6, c7, c8, c9, hlt⟩ := box10 (h.below hal).blk
  obtain ⟨x0, x1, x2, x3, x4, x5, x6, x7, x8⟩ := box9 gX
  have flt := blk_lt gX
  have n16 := hok.n16
  have hj0 : (0 : Int) ≤ (j : Int) := by omega
  have hj1 : (j : Int) < (m.prog.length : Int) := by omega
  have hj2 : (j : Int) + 1 ≤ 16 := by omega
  have hwr0 : IntKind.i64.wrap (j : Int) = (j : Int) := wrap_id (by omega) (by omega)
  have h1 : (m.role != 2) = false := by simp [hr]
  have h2 : (xt != m.term) = false := by simp [ht]
  have hlive := hok.live (by omega)
  clear hr ht
  have hpa := hok.prAt ((j : Int) + 1)
  obtain ⟨pv0, pv1⟩ := prV_at hj
  rw [← prAt_at hj] at pv0 pv1
  have HP0 := Lib.hid pv0
  have HP1 := Lib.hid pv1
  clear pv0 pv1
  go_enter Tryz.func74, Tryz.ntmps74
  go_wp2
  go_quiet (fail)
  have H1 := HA.out.many nq
  have g1 := blk_many gX nq
  have S1 := S0.many nq
  clear c0 c1 c2 c3 c4 c5 c6 c7 c8 c9 hlt x0 x1 x2 x3 x4 x5 x6 x7 x8 flt HA S0 gX hal
  generalize (w.alloc (.cells #[.int .i64 xk, .int .i64 ((j : Int) + 1), .int .i64 xd, .int .i64 xt, .int .i64 xi, .int .i64 xl, .int .i64 xc, .bool true, .slice am xe.length cm] 70)).drewN nq = W1 at *
  obtain ⟨c0, c1, c2, c3, c4, c5, c6, c7, c8, c9, hlt⟩ := box10 H1.blk
  obtain ⟨x0, x1, x2, x3, x4, x5, x6, x7, x8⟩ := box9 g1
  have flt := blk_lt g1
  go_wp2
  go_quiet (fail)
  have H2 := H1.many nq
  have g2 := blk_many g1 nq
  have S2 := S1.many nq
  clear c0 c1 c2 c3 c4 c5 c6 c7 c8 c9 hlt x0 x1 x2 x3 x4 x5 x6 x7 x8 flt H1 S1 g1 hwr0
  generalize W1.drewN nq = W2 at *
  obtain ⟨c0, c1, c2, c3, c4, c5, c6, c7, c8, c9, hlt⟩ := box10 H2.blk
  obtain ⟨x0, x1, x2, x3, x4, x5, x6, x7, x8⟩ := box9 g2
  have flt := blk_lt g2
  have o0 := own_cell H2.prog HP0.out
  have o1 := own_cell H2.prog HP1.out
  have fo0 := own_frozen H2.prog (j * 2)
  have fo1 := own_frozen H2.prog (j * 2 + 1)
  have olt := (own_blk H2.prog a.oa (by simp [blkOf])).2
  go_wp2
  go_quiet (fail)
  go_wp2
  go_ret
  exact RetR.nil (H2.many _) (S2.many _)
set_option maxRecDepth 100000 in
set_option maxHeartbeats 6400000 in
theorem added_far (h : MAt w b a m) (hok : MbOk m) (xk xd xt xi xl xc : Int) (j : Nat) (hj : j < m.prog.length) (xe : List En) (am : Option Addr) (cm : Nat) (hwi : -9223372036854775808 ≤ xi ∧ xi ≤ 9223372036854775807) (hr : m.role = 2) (ht : xt = m.term) (hi0 : 0 ≤ xi) (hi : (lastF 0 0 m.log).1 < xi)  :
    Calls Tryz.prog 74 #[.pointer (some ⟨b, 0, none⟩), .agg #[.int .i64 xk, .int .i64 ((j : Int) + 1), .int .i64 xd, .int .i64 xt, .int .i64 xi, .int .i64 xl, .int .i64 xc, .bool true, .slice am xe.length cm]] w (RetR m [] b a w) := by
  have hal := below1 w (.cells #[.int .i64 xk, .int .i64 ((j : Int) + 1), .int .i64 xd, .int .i64 xt, .int .i64 xi, .int .i64 xl, .int .i64 xc, .bool true, .slice am xe.length cm] 70)
  have gX := blk_new w (.cells #[.int .i64 xk, .int .i64 ((j : Int) + 1), .int .i64 xd, .int .i64 xt, .int .i64 xi, .int .i64 xl, .int .i64 xc, .bool true, .slice am xe.length cm] 70)
  have HA := Lib.hid (h.below hal)
  have hnx := h.new (Nat.le_refl w.heap.size)
  have S0 : Step w b a (w.alloc (.cells #[.int .i64 xk, .int .i64 ((j : Int) + 1), .int .i64 xd, .int .i64 xt, .int .i64 xi, .int .i64 xl, .int .i64 xc, .bool true, .slice am xe.length cm] 70)) a := .of_below hal
  obtain ⟨c0, c1, c2, c3, c4, c5, c6, c7, c8, c9, hlt⟩ := box10 (h.below hal).blk
  obtain ⟨x0, x1, x2, x3, x4, x5, x6, x7, x8⟩ := box9 gX
  have flt := blk_lt gX
  have n16 := hok.n16
  have hj0 : (0 : Int) ≤ (j : Int) := by omega
  have hj1 : (j : Int) < (m.prog.length : Int) := by omega
  have hj2 : (j : Int) + 1 ≤ 16 := by omega
  have hwr0 : IntKind.i64.wrap (j : Int) = (j : Int) := wrap_id (by omega) (by omega)
  have h1 : (m.role != 2) = false := by simp [hr]
  have h2 : (xt != m.term) = false := by simp [ht]
  have hlive := hok.live (by omega)
  clear hr ht
  have hlastH := fun W (hW : MAt W b a m) => mlast_any hW
  have HLA := Lib.hid hlastH
  clear hlastH
  have hX2 : 0 ≤ (lastF 0 0 m.log).1 ∧ (lastF 0 0 m.log).1 ≤ 64 := by rw [hok.lastF]; have := hok.len64; simp only; omega
  obtain ⟨hX0, hX1⟩ := hX2
  generalize (lastF 0 0 m.log).1 = X at *
  have hpa := hok.prAt ((j : Int) + 1)
  obtain ⟨pv0, pv1⟩ := prV_at hj
  rw [← prAt_at hj] at pv0 pv1
  have HP0 := Lib.hid pv0
  have HP1 := Lib.hid pv1
  clear pv0 pv1
  go_enter Tryz.func74, Tryz.ntmps74
  go_wp2
  go_quiet (fail)
  have H1 := HA.out.many nq
  have g1 := blk_many gX nq
  have S1 := S0.many nq
  clear c0 c1 c2 c3 c4 c5 c6 c7 c8 c9 hlt x0 x1 x2 x3 x4 x5 x6 x7 x8 flt HA S0 gX hal
  generalize (w.alloc (.cells #[.int .i64 xk, .int .i64 ((j : Int) + 1), .int .i64 xd, .int .i64 xt, .int .i64 xi, .int .i64 xl, .int .i64 xc, .bool true, .slice am xe.length cm] 70)).drewN nq = W1 at *
  obtain ⟨c0, c1, c2, c3, c4, c5, c6, c7, c8, c9, hlt⟩ := box10 H1.blk
  obtain ⟨x0, x1, x2, x3, x4, x5, x6, x7, x8⟩ := box9 g1
  have flt := blk_lt g1
  go_wp2
  go_quiet (fail)
  have H2 := H1.many nq
  have g2 := blk_many g1 nq
  have S2 := S1.many nq
  clear c0 c1 c2 c3 c4 c5 c6 c7 c8 c9 hlt x0 x1 x2 x3 x4 x5 x6 x7 x8 flt H1 S1 g1 hwr0
  generalize W1.drewN nq = W2 at *
  obtain ⟨c0, c1, c2, c3, c4, c5, c6, c7, c8, c9, hlt⟩ := box10 H2.blk
  obtain ⟨x0, x1, x2, x3, x4, x5, x6, x7, x8⟩ := box9 g2
  have flt := blk_lt g2
  have o0 := own_cell H2.prog HP0.out
  have o1 := own_cell H2.prog HP1.out
  have fo0 := own_frozen H2.prog (j * 2)
  have fo1 := own_frozen H2.prog (j * 2 + 1)
  have olt := (own_blk H2.prog a.oa (by simp [blkOf])).2
  have HLA2 := Lib.hid (HLA.out _ H2.drew)
  have hdn : decide (xi < 0) = false := by simpa using hi0
  go_wp2
  go_region_law (first
    | (go_simp; go_at_call 114; refine HLA2.out.mono ?_; rintro e w3 ⟨rfl, hb3⟩; have H3 := H2.drew.below hb3; have g3 := blk_keep hb3 (blk_drawn g2); obtain ⟨y0, y1, y2, y3, y4, y5, y6, y7, y8⟩ := box9 g3; have glt := blk_lt g3; (try go_simp)))
  all_goals go_wp2
  all_goals go_ret
  all_goals exact RetR.nil H3 ((S2.drew).below hb3)
set_option maxRecDepth 100000 in
set_option maxHeartbeats 6400000 in
theorem added_done (h : MAt w b a m) (hok : MbOk m) (xk xd xt xi xl xc : Int) (j : Nat) (hj : j < m.prog.length) (xe : List En) (am : Option Addr) (cm : Nat) (hwi : -9223372036854775808 ≤ xi ∧ xi ≤ 9223372036854775807) (hr : m.role = 2) (ht : xt = m.term) (hi0 : 0 ≤ xi) (hi : xi ≤ (lastF 0 0 m.log).1) (hd : (lastF 0 0 m.log).1 < max (m.prAt ((j : Int) + 1)).1 xi + 1)  :
    Calls Tryz.prog 74 #[.pointer (some ⟨b, 0, none⟩), .agg #[.int .i64 xk, .int .i64 ((j : Int) + 1), .int .i64 xd, .int .i64 xt, .int .i64 xi, .int .i64 xl, .int .i64 xc, .bool true, .slice am xe.length cm]] w (RetR (m.matched ⟨xk, (j : Int) + 1, xd, xt, xi, xl, xc, true, xe⟩) [] b a w) := by
  have hal := below1 w (.cells #[.int .i64 xk, .int .i64 ((j : Int) + 1), .int .i64 xd, .int .i64 xt, .int .i64 xi, .int .i64 xl, .int .i64 xc, .bool true, .slice am xe.length cm] 70)
  have gX := blk_new w (.cells #[.int .i64 xk, .int .i64 ((j : Int) + 1), .int .i64 xd, .int .i64 xt, .int .i64 xi, .int .i64 xl, .int .i64 xc, .bool true, .slice am xe.length cm] 70)
  have HA := Lib.hid (h.below hal)
  have hnx := h.new (Nat.le_refl w.heap.size)
  have S0 : Step w b a (w.alloc (.cells #[.int .i64 xk, .int .i64 ((j : Int) + 1), .int .i64 xd, .int .i64 xt, .int .i64 xi, .int .i64 xl, .int .i64 xc, .bool true, .slice am xe.length cm] 70)) a := .of_below hal
  obtain ⟨c0, c1, c2, c3, c4, c5, c6, c7, c8, c9, hlt⟩ := box10 (h.below hal).blk
  obtain ⟨x0, x1, x2, x3, x4, x5, x6, x7, x8⟩ := box9 gX
  have flt := blk_lt gX
  have n16 := hok.n16
  have hj0 : (0 : Int) ≤ (j : Int) := by omega
  have hj1 : (j : Int) < (m.prog.length : Int) := by omega
  have hj2 : (j : Int) + 1 ≤ 16 := by omega
  have hwr0 : IntKind.i64.wrap (j : Int) = (j : Int) := wrap_id (by omega) (by omega)
  have h1 : (m.role != 2) = false := by simp [hr]
  have h2 : (xt != m.term) = false := by simp [ht]
  have hlive := hok.live (by omega)
  clear hr ht
  have hlastH := fun W (hW : MAt W b a m) => mlast_any hW
  have HLA := Lib.hid hlastH
  clear hlastH
  have hX2 : 0 ≤ (lastF 0 0 m.log).1 ∧ (lastF 0 0 m.log).1 ≤ 64 := by rw [hok.lastF]; have := hok.len64; simp only; omega
  have HMT : Hid (m.matched ⟨xk, (j : Int) + 1, xd, xt, xi, xl, xc, true, xe⟩ = (m.setPr ((j : Int) + 1) (max (m.prAt ((j : Int) + 1)).1 xi, max (m.prAt ((j : Int) + 1)).1 xi + 1)).settle) := rfl
  have hlg : (m.matched ⟨xk, (j : Int) + 1, xd, xt, xi, xl, xc, true, xe⟩).log = m.log := rfl
  have HOKM := Lib.hid (hok.matched ⟨xk, (j : Int) + 1, xd, xt, xi, xl, xc, true, xe⟩ (by simp only; omega))
  have HPR : Hid ((m.matched ⟨xk, (j : Int) + 1, xd, xt, xi, xl, xc, true, xe⟩).prAt ((j : Int) + 1) = (max (m.prAt ((j : Int) + 1)).1 xi, max (m.prAt ((j : Int) + 1)).1 xi + 1)) := setPr_at hj _
  have HOKS := Lib.hid (hok.setPr ((j : Int) + 1) (max (m.prAt ((j : Int) + 1)).1 xi, max (m.prAt ((j : Int) + 1)).1 xi + 1) (by have := hok.prAt ((j : Int) + 1); simp only; omega))
  have HLM : Hid (j < (m.matched ⟨xk, (j : Int) + 1, xd, xt, xi, xl, xc, true, xe⟩).prog.length) := by unfold Hid Mb.matched Mb.settle Mb.setPr; simpa using hj
  generalize m.matched ⟨xk, (j : Int) + 1, xd, xt, xi, xl, xc, true, xe⟩ = mm at *
  have HLOG := Lib.hid hlg
  clear hlg
  obtain ⟨hX0, hX1⟩ := hX2
  generalize hXd : (lastF 0 0 m.log).1 = X at *
  replace hXd := Lib.hid hXd
  have hpa := hok.prAt ((j : Int) + 1)
  obtain ⟨pv0, pv1⟩ := prV_at hj
  rw [← prAt_at hj] at pv0 pv1
  have HP0 := Lib.hid pv0
  have HP1 := Lib.hid pv1
  clear pv0 pv1
  go_enter Tryz.func74, Tryz.ntmps74
  go_wp2
  go_quiet (fail)
  have H1 := HA.out.many nq
  have g1 := blk_many gX nq
  have S1 := S0.many nq
  clear c0 c1 c2 c3 c4 c5 c6 c7 c8 c9 hlt x0 x1 x2 x3 x4 x5 x6 x7 x8 flt HA S0 gX hal
  generalize (w.alloc (.cells #[.int .i64 xk, .int .i64 ((j : Int) + 1), .int .i64 xd, .int .i64 xt, .int .i64 xi, .int .i64 xl, .int .i64 xc, .bool true, .slice am xe.length cm] 70)).drewN nq = W1 at *
  obtain ⟨c0, c1, c2, c3, c4, c5, c6, c7, c8, c9, hlt⟩ := box10 H1.blk
  obtain ⟨x0, x1, x2, x3, x4, x5, x6, x7, x8⟩ := box9 g1
  have flt := blk_lt g1
  go_wp2
  go_quiet (fail)
  have H2 := H1.many nq
  have g2 := blk_many g1 nq
  have S2 := S1.many nq
  clear c0 c1 c2 c3 c4 c5 c6 c7 c8 c9 hlt x0 x1 x2 x3 x4 x5 x6 x7 x8 flt H1 S1 g1 hwr0
  generalize W1.drewN nq = W2 at *
  obtain ⟨c0, c1, c2, c3, c4, c5, c6, c7, c8, c9, hlt⟩ := box10 H2.blk
  obtain ⟨x0, x1, x2, x3, x4, x5, x6, x7, x8⟩ := box9 g2
  have flt := blk_lt g2
  have o0 := own_cell H2.prog HP0.out
  have o1 := own_cell H2.prog HP1.out
  have fo0 := own_frozen H2.prog (j * 2)
  have fo1 := own_frozen H2.prog (j * 2 + 1)
  have olt := (own_blk H2.prog a.oa (by simp [blkOf])).2
  have HLA2 := Lib.hid (HLA.out _ H2.drew)
  have hdn : decide (xi < 0) = false := by simpa using hi0
  have hdf : decide (X < xi) = false := by simpa using hi
  have hsn := fun x => H2.setPr j hj x
  clear hsn
  go_wp2
  go_cut [5, 73] (fun p q wx => p = .pointer (some ⟨a.oa, j * 2, none⟩) ∧ q = .bool false ∧ MAt wx b a m ∧ Step w b a wx a ∧ wx.heap[w.heap.size]? = some (.cells #[.int .i64 xk, .int .i64 ((j : Int) + 1), .int .i64 xd, .int .i64 xt, .int .i64 xi, .int .i64 xl, .int .i64 xc, .bool true, .slice am xe.length cm] 70))
  case first =>
    go_region_law (first
      | (go_simp; go_at_call 114; refine HLA2.out.mono ?_; rintro e w3 ⟨rfl, hb3⟩; have H3 := H2.drew.below hb3; have g3 := blk_keep hb3 (blk_drawn g2); obtain ⟨y0, y1, y2, y3, y4, y5, y6, y7, y8⟩ := box9 g3; have glt := blk_lt g3; (try go_simp)))
    all_goals (go_wp2_with fail; go_meet)
    all_goals exact ⟨rfl, rfl, H3, (S2.drew).below hb3, g3⟩
  case rest =>
    obtain ⟨rfl, rfl, H4, S4, g4⟩ := hcut
    clear c0 c1 c2 c3 c4 c5 c6 c7 c8 c9 hlt x0 x1 x2 x3 x4 x5 x6 x7 x8 flt o0 o1 fo0 fo1 olt
    obtain ⟨x0, x1, x2, x3, x4, x5, x6, x7, x8⟩ := box9 g4
    have flt := blk_lt g4
    have o0 := own_cell H4.prog HP0.out
    have o1 := own_cell H4.prog HP1.out
    have fo0 := own_frozen H4.prog (j * 2)
    have fo1 := own_frozen H4.prog (j * 2 + 1)
    have olt := (own_blk H4.prog a.oa (by simp [blkOf])).2
    have hne : w.heap.size ≠ a.oa := fun e => hnx (e ▸ foot_o b a)
    have HSN := Lib.hid (H4.drew.setPr j hj (max (m.prAt ((j : Int) + 1)).1 xi, max (m.prAt ((j : Int) + 1)).1 xi + 1))
    generalize m.prAt ((j : Int) + 1) = P at *
    obtain ⟨P1, P2⟩ := P
    simp only at hpa HP0 HP1 HSN o0 o1 HMT HPR HOKS
    obtain ⟨hp1, hp2, hp3, hp4⟩ := hpa
    have hwr2 : IntKind.i64.wrap (max P1 xi + 1) = max P1 xi + 1 := wrap_id (by omega) (by omega)
    have hmx0 : 0 ≤ max P1 xi := by omega
    have hmx1 : max P1 xi ≤ 64 := by omega
    go_wp2
    go_still_tail 10, (by kernel_rfl)
    show wpList _ _ _ _ _ wc.drew
    have HSET := Lib.hid (settle_same HSN.out HOKS.out)
    rw [← HMT.out] at HSET
    have S5 := ((S4.drew).storeO (j * 2) (.int .i64 (max P1 xi))).storeO (j * 2 + 1) (.int .i64 (max P1 xi + 1))
    have g5 : ((wc.drew.setCell ⟨a.oa, j * 2, none⟩ (.int .i64 (max P1 xi))).setCell ⟨a.oa, j * 2 + 1, none⟩ (.int .i64 (max P1 xi + 1))).heap[w.heap.size]? = _ := blk_far (blk_far (blk_drawn g4) hne _) hne _
    go_wp2_with (go_at_call 116; refine HSET.out.mono ?_; rintro e w6 ⟨rfl, H6, S6⟩)
    have S7 := S5.trans S6
    have g6 := S6.keep g5 hnx
    clear x0 x1 x2 x3 x4 x5 x6 x7 x8 flt o0 o1 fo0 fo1 olt hwr2
    obtain ⟨x0, x1, x2, x3, x4, x5, x6, x7, x8⟩ := box9 g6
    have flt := blk_lt g6
    have o1 := own_cell H6.prog (by have := (prV_at HLM.out).2; rw [← prAt_at HLM.out, HPR.out] at this; exact this)
    simp only at o1
    have HLA6 : Hid (Calls Tryz.prog 114 #[.pointer (some ⟨b, 0, none⟩)] w6.drew fun e w' => e = .returned (.int .i64 X) ∧ Below w6.drew.heap.size w6.drew w') := by have := mlast_any H6.drew; rw [HLOG.out] at this; rwa [hXd.out] at this
    go_region_law (first
      | (go_simp; go_at_call 114; refine HLA6.out.mono ?_; rintro e w7 ⟨rfl, hb7⟩; have H7 := H6.drew.below hb7; have g7 := blk_keep hb7 (blk_drawn g6); obtain ⟨y0, y1, y2, y3, y4, y5, y6, y7, y8⟩ := box9 g7; have glt := blk_lt g7; have o7 := own_cell H7.prog (by have := (prV_at HLM.out).2; rw [← prAt_at HLM.out, HPR.out] at this; exact this); simp only at o7; (try go_simp)))
    all_goals go_wp2
    all_goals go_ret
    all_goals exact RetR.nil H7 ((S7.drew).below hb7)
set_option maxRecDepth 100000 in
set_option maxHeartbeats 6400000 in
theorem added_more (h : MAt w b a m) (hok : MbOk m) (xk xd xt xi xl xc : Int) (j : Nat) (hj : j < m.prog.length) (xe : List En) (am : Option Addr) (cm : Nat) (hwi : -9223372036854775808 ≤ xi ∧ xi ≤ 9223372036854775807) (hr : m.role = 2) (ht : xt = m.term) (hi0 : 0 ≤ xi) (hi : xi ≤ (lastF 0 0 m.log).1) (hd : max (m.prAt ((j : Int) + 1)).1 xi + 1 ≤ (lastF 0 0 m.log).1)  :
    Calls Tryz.prog 74 #[.pointer (some ⟨b, 0, none⟩), .agg #[.int .i64 xk, .int .i64 ((j : Int) + 1), .int .i64 xd, .int .i64 xt, .int .i64 xi, .int .i64 xl, .int .i64 xc, .bool true, .slice am xe.length cm]] w (RetR (m.matched ⟨xk, (j : Int) + 1, xd, xt, xi, xl, xc, true, xe⟩) [(m.matched ⟨xk, (j : Int) + 1, xd, xt, xi, xl, xc, true, xe⟩).addn ((j : Int) + 1)] b a w) := by
  have hal := below1 w (.cells #[.int .i64 xk, .int .i64 ((j : Int) + 1), .int .i64 xd, .int .i64 xt, .int .i64 xi, .int .i64 xl, .int .i64 xc, .bool true, .slice am xe.length cm] 70)
  have gX := blk_new w (.cells #[.int .i64 xk, .int .i64 ((j : Int) + 1), .int .i64 xd, .int .i64 xt, .int .i64 xi, .int .i64 xl, .int .i64 xc, .bool true, .slice am xe.length cm] 70)
  have HA := Lib.hid (h.below hal)
  have hnx := h.new (Nat.le_refl w.heap.size)
  have S0 : Step w b a (w.alloc (.cells #[.int .i64 xk, .int .i64 ((j : Int) + 1), .int .i64 xd, .int .i64 xt, .int .i64 xi, .int .i64 xl, .int .i64 xc, .bool true, .slice am xe.length cm] 70)) a := .of_below hal
  obtain ⟨c0, c1, c2, c3, c4, c5, c6, c7, c8, c9, hlt⟩ := box10 (h.below hal).blk
  obtain ⟨x0, x1, x2, x3, x4, x5, x6, x7, x8⟩ := box9 gX
  have flt := blk_lt gX
  have n16 := hok.n16
  have hj0 : (0 : Int) ≤ (j : Int) := by omega
  have hj1 : (j : Int) < (m.prog.length : Int) := by omega
  have hj2 : (j : Int) + 1 ≤ 16 := by omega
  have hwr0 : IntKind.i64.wrap (j : Int) = (j : Int) := wrap_id (by omega) (by omega)
  have h1 : (m.role != 2) = false := by simp [hr]
  have h2 : (xt != m.term) = false := by simp [ht]
  have hlive := hok.live (by omega)
  clear hr ht
  have hlastH := fun W (hW : MAt W b a m) => mlast_any hW
  have HLA := Lib.hid hlastH
  clear hlastH
  have hX2 : 0 ≤ (lastF 0 0 m.log).1 ∧ (lastF 0 0 m.log).1 ≤ 64 := by rw [hok.lastF]; have := hok.len64; simp only; omega
  have HMT : Hid (m.matched ⟨xk, (j : Int) + 1, xd, xt, xi, xl, xc, true, xe⟩ = (m.setPr ((j : Int) + 1) (max (m.prAt ((j : Int) + 1)).1 xi, max (m.prAt ((j : Int) + 1)).1 xi + 1)).settle) := rfl
  have hlg : (m.matched ⟨xk, (j : Int) + 1, xd, xt, xi, xl, xc, true, xe⟩).log = m.log := rfl
  have HOKM := Lib.hid (hok.matched ⟨xk, (j : Int) + 1, xd, xt, xi, xl, xc, true, xe⟩ (by simp only; omega))
  have HPR : Hid ((m.matched ⟨xk, (j : Int) + 1, xd, xt, xi, xl, xc, true, xe⟩).prAt ((j : Int) + 1) = (max (m.prAt ((j : Int) + 1)).1 xi, max (m.prAt ((j : Int) + 1)).1 xi + 1)) := setPr_at hj _
  have HOKS := Lib.hid (hok.setPr ((j : Int) + 1) (max (m.prAt ((j : Int) + 1)).1 xi, max (m.prAt ((j : Int) + 1)).1 xi + 1) (by have := hok.prAt ((j : Int) + 1); simp only; omega))
  have HLM : Hid (j < (m.matched ⟨xk, (j : Int) + 1, xd, xt, xi, xl, xc, true, xe⟩).prog.length) := by unfold Hid Mb.matched Mb.settle Mb.setPr; simpa using hj
  generalize m.matched ⟨xk, (j : Int) + 1, xd, xt, xi, xl, xc, true, xe⟩ = mm at *
  have HLOG := Lib.hid hlg
  clear hlg
  obtain ⟨hX0, hX1⟩ := hX2
  generalize hXd : (lastF 0 0 m.log).1 = X at *
  replace hXd := Lib.hid hXd
  have hpa := hok.prAt ((j : Int) + 1)
  obtain ⟨pv0, pv1⟩ := prV_at hj
  rw [← prAt_at hj] at pv0 pv1
  have HP0 := Lib.hid pv0
  have HP1 := Lib.hid pv1
  clear pv0 pv1
  go_enter Tryz.func74, Tryz.ntmps74
  go_wp2
  go_quiet (fail)
  have H1 := HA.out.many nq
  have g1 := blk_many gX nq
  have S1 := S0.many nq
  clear c0 c1 c2 c3 c4 c5 c6 c7 c8 c9 hlt x0 x1 x2 x3 x4 x5 x6 x7 x8 flt HA S0 gX hal
  generalize (w.alloc (.cells #[.int .i64 xk, .int .i64 ((j : Int) + 1), .int .i64 xd, .int .i64 xt, .int .i64 xi, .int .i64 xl, .int .i64 xc, .bool true, .slice am xe.length cm] 70)).drewN nq = W1 at *
  obtain ⟨c0, c1, c2, c3, c4, c5, c6, c7, c8, c9, hlt⟩ := box10 H1.blk
  obtain ⟨x0, x1, x2, x3, x4, x5, x6, x7, x8⟩ := box9 g1
  have flt := blk_lt g1
  go_wp2
  go_quiet (fail)
  have H2 := H1.many nq
  have g2 := blk_many g1 nq
  have S2 := S1.many nq
  clear c0 c1 c2 c3 c4 c5 c6 c7 c8 c9 hlt x0 x1 x2 x3 x4 x5 x6 x7 x8 flt H1 S1 g1 hwr0
  generalize W1.drewN nq = W2 at *
  obtain ⟨c0, c1, c2, c3, c4, c5, c6, c7, c8, c9, hlt⟩ := box10 H2.blk
  obtain ⟨x0, x1, x2, x3, x4, x5, x6, x7, x8⟩ := box9 g2
  have flt := blk_lt g2
  have o0 := own_cell H2.prog HP0.out
  have o1 := own_cell H2.prog HP1.out
  have fo0 := own_frozen H2.prog (j * 2)
  have fo1 := own_frozen H2.prog (j * 2 + 1)
  have olt := (own_blk H2.prog a.oa (by simp [blkOf])).2
  have HLA2 := Lib.hid (HLA.out _ H2.drew)
  have hdn : decide (xi < 0) = false := by simpa using hi0
  have hdf : decide (X < xi) = false := by simpa using hi
  have hsn := fun x => H2.setPr j hj x
  clear hsn
  go_wp2
  go_cut [5, 73] (fun p q wx => p = .pointer (some ⟨a.oa, j * 2, none⟩) ∧ q = .bool false ∧ MAt wx b a m ∧ Step w b a wx a ∧ wx.heap[w.heap.size]? = some (.cells #[.int .i64 xk, .int .i64 ((j : Int) + 1), .int .i64 xd, .int .i64 xt, .int .i64 xi, .int .i64 xl, .int .i64 xc, .bool true, .slice am xe.length cm] 70))
  case first =>
    go_region_law (first
      | (go_simp; go_at_call 114; refine HLA2.out.mono ?_; rintro e w3 ⟨rfl, hb3⟩; have H3 := H2.drew.below hb3; have g3 := blk_keep hb3 (blk_drawn g2); obtain ⟨y0, y1, y2, y3, y4, y5, y6, y7, y8⟩ := box9 g3; have glt := blk_lt g3; (try go_simp)))
    all_goals (go_wp2_with fail; go_meet)
    all_goals exact ⟨rfl, rfl, H3, (S2.drew).below hb3, g3⟩
  case rest =>
    obtain ⟨rfl, rfl, H4, S4, g4⟩ := hcut
    clear c0 c1 c2 c3 c4 c5 c6 c7 c8 c9 hlt x0 x1 x2 x3 x4 x5 x6 x7 x8 flt o0 o1 fo0 fo1 olt
    obtain ⟨x0, x1, x2, x3, x4, x5, x6, x7, x8⟩ := box9 g4
    have flt := blk_lt g4
    have o0 := own_cell H4.prog HP0.out
    have o1 := own_cell H4.prog HP1.out
    have fo0 := own_frozen H4.prog (j * 2)
    have fo1 := own_frozen H4.prog (j * 2 + 1)
    have olt := (own_blk H4.prog a.oa (by simp [blkOf])).2
    have hne : w.heap.size ≠ a.oa := fun e => hnx (e ▸ foot_o b a)
    have HSN := Lib.hid (H4.drew.setPr j hj (max (m.prAt ((j : Int) + 1)).1 xi, max (m.prAt ((j : Int) + 1)).1 xi + 1))
    generalize m.prAt ((j : Int) + 1) = P at *
    obtain ⟨P1, P2⟩ := P
    simp only at hpa HP0 HP1 HSN o0 o1 HMT HPR HOKS
    obtain ⟨hp1, hp2, hp3, hp4⟩ := hpa
    have hwr2 : IntKind.i64.wrap (max P1 xi + 1) = max P1 xi + 1 := wrap_id (by omega) (by omega)
    have hmx0 : 0 ≤ max P1 xi := by omega
    have hmx1 : max P1 xi ≤ 64 := by omega
    go_wp2
    go_still_tail 10, (by kernel_rfl)
    show wpList _ _ _ _ _ wc.drew
    have HSET := Lib.hid (settle_same HSN.out HOKS.out)
    rw [← HMT.out] at HSET
    have S5 := ((S4.drew).storeO (j * 2) (.int .i64 (max P1 xi))).storeO (j * 2 + 1) (.int .i64 (max P1 xi + 1))
    have g5 : ((wc.drew.setCell ⟨a.oa, j * 2, none⟩ (.int .i64 (max P1 xi))).setCell ⟨a.oa, j * 2 + 1, none⟩ (.int .i64 (max P1 xi + 1))).heap[w.heap.size]? = _ := blk_far (blk_far (blk_drawn g4) hne _) hne _
    go_wp2_with (go_at_call 116; refine HSET.out.mono ?_; rintro e w6 ⟨rfl, H6, S6⟩)
    have S7 := S5.trans S6
    have g6 := S6.keep g5 hnx
    clear x0 x1 x2 x3 x4 x5 x6 x7 x8 flt o0 o1 fo0 fo1 olt hwr2
    obtain ⟨x0, x1, x2, x3, x4, x5, x6, x7, x8⟩ := box9 g6
    have flt := blk_lt g6
    have o1 := own_cell H6.prog (by have := (prV_at HLM.out).2; rw [← prAt_at HLM.out, HPR.out] at this; exact this)
    simp only at o1
    have HLA6 : Hid (Calls Tryz.prog 114 #[.pointer (some ⟨b, 0, none⟩)] w6.drew fun e w' => e = .returned (.int .i64 X) ∧ Below w6.drew.heap.size w6.drew w') := by have := mlast_any H6.drew; rw [HLOG.out] at this; rwa [hXd.out] at this
    go_region_law (first
      | (go_simp; go_at_call 114; refine HLA6.out.mono ?_; rintro e w7 ⟨rfl, hb7⟩; have H7 := H6.drew.below hb7; have g7 := blk_keep hb7 (blk_drawn g6); obtain ⟨y0, y1, y2, y3, y4, y5, y6, y7, y8⟩ := box9 g7; have glt := blk_lt g7; have o7 := own_cell H7.prog (by have := (prV_at HLM.out).2; rw [← prAt_at HLM.out, HPR.out] at this; exact this); simp only at o7; (try go_simp)))
    all_goals (
      have HAD := Lib.hid (addn_at H7 HOKM.out j HLM.out)
      go_wp2_with (go_at_call 67; refine HAD.out.mono ?_; rintro e w8 ⟨a8, c8', rfl, own8, hb8⟩)
      go_ret
      exact RetR.oneB (mm.addn ((j : Int) + 1)) (H7.below hb8) (((S7.drew).below hb7).below hb8) ((S7.drew).below hb7).chg.size H7.lt own8 hb8.size rfl)
end
theorem added_any {w : World} {b : Nat} {a : MA} {m : Mb} (h : MAt w b a m) (hok : MbOk m) (x : Ms) (am : Option Addr) (cm : Nat) (hx1 : 1 ≤ x.frm) (hx2 : x.frm ≤ m.prog.length) (hwi : -9223372036854775808 ≤ x.index ∧ x.index ≤ 9223372036854775807) :
    Calls Tryz.prog 74 #[.pointer (some ⟨b, 0, none⟩), x.val am cm] w (RetR (m.added x).1 (m.added x).2 b a w) := by
  obtain ⟨xk, xf, xd, xt, xi, xl, xc, xy, xe⟩ := x
  simp only at hx1 hx2 hwi
  obtain ⟨j, rfl⟩ : ∃ j : Nat, xf = (j : Int) + 1 := ⟨(xf - 1).toNat, by omega⟩
  have hj : j < m.prog.length := by omega
  unfold Mb.added
  simp only
  by_cases h1 : m.role ≠ 2 ∨ xt ≠ m.term
  · rw [if_pos h1]
    exact added_no h hok xk xd xt xi xl xc j hj xy xe am cm hwi h1
  rw [if_neg h1]
  have hr : m.role = 2 := by
    by_cases h2 : m.role = 2
    · exact h2
    · exact (h1 (.inl h2)).elim
  have ht : xt = m.term := by
    by_cases h2 : xt = m.term
    · exact h2
    · exact (h1 (.inr h2)).elim
  cases xy with
  | false =>
    rw [if_pos rfl]
    exact added_back h hok xk xd xt xi xl xc j hj xe am cm hwi hr ht
  | true =>
    rw [if_neg (by decide)]
    by_cases h2 : xi < 0
    · rw [if_pos (.inl h2)]
      exact added_neg h hok xk xd xt xi xl xc j hj xe am cm hwi hr ht h2
    by_cases h3 : (lastF 0 0 m.log).1 < xi
    · rw [if_pos (.inr h3)]
      exact added_far h hok xk xd xt xi xl xc j hj xe am cm hwi hr ht (by omega) h3
    rw [if_neg (by omega)]
    by_cases h4 : (lastF 0 0 m.log).1 < max (m.prAt ((j : Int) + 1)).1 xi + 1
    · rw [if_pos h4]
      exact added_done h hok xk xd xt xi xl xc j hj xe am cm hwi hr ht (by omega) (by omega) h4
    · rw [if_neg h4]
      exact added_more h hok xk xd xt xi xl xc j hj xe am cm hwi hr ht (by omega) (by omega) (by omega)
end Go.Proofs.YthjdbmfobmnnlaaGreat
