/-
  The law that a member is deaf to what is not for it.
-/
import Derived.Test.YtlejbhgginolgaaRaftT
import Derived.Test.YtlejbhgginolgaaRaftR
namespace Go.Proofs.Ytlejbhgginolgaa
open Go.RowKit
set_option linter.unusedVariables false
abbrev msOf (m : Mg) : Ms := ⟨m.1, m.2.1, m.2.2.1, m.2.2.2.1, m.2.2.2.2.1, m.2.2.2.2.2.1, m.2.2.2.2.2.2.1, m.2.2.2.2.2.2.2.1, m.2.2.2.2.2.2.2.2⟩
set_option maxRecDepth 100000 in
set_option maxHeartbeats 6400000 in
theorem raftDeaf_walk (id many t v b bt : Int) (la : Option Addr) (lc : Nat) (es : List En) (xk xf xd xt xi xl xc : Int) (xy : Bool) (xe : List En) (am : Option Addr) (cm : Nat) (w : World) (hl : LogIn w la lc es) (hm : LogIn w am cm xe) (hk : (Lit.int .i64 xk).wf = true) (hwi : (Lit.int .i64 xi).wf = true) :
    Calls Try.prog 5 #[.int .i64 id, .int .i64 many, ballotV t v, logV b bt la es.length lc, .agg #[.int .i64 xk, .int .i64 xf, .int .i64 xd, .int .i64 xt, .int .i64 xi, .int .i64 xl, .int .i64 xc, .bool xy, .slice am xe.length cm]] w fun e w' => e = .returned (.bool true) ∧ Below w.heap.size w w' := by
  obtain ⟨⟨g0, g1, g2⟩, hz, hw0⟩ := alloc3 w (.cells #[.int .i64 t, .int .i64 v] 23) (.cells #[.int .i64 b, .int .i64 bt, .slice la es.length lc] 26) (.cells #[.int .i64 xk, .int .i64 xf, .int .i64 xd, .int .i64 xt, .int .i64 xi, .int .i64 xl, .int .i64 xc, .bool xy, .slice am xe.length cm] 37)
  clear hz
  by_cases h100 : 100 < es.length
  · have h100' : (100 : Int) < (es.length : Int) := by omega
    go_enter Try.func5, Try.ntmps5
    go_wp2_with (go_at_call 8; refine (raftAwake_any _).mono ?_; rintro e w1 ⟨rfl, hb1⟩; replace hw0 := hw0.trans (hb1.mono hw0.size); replace g1 := blk_keep hb1 g1; obtain ⟨lc0, lc1, lc2, lf0, lf1, lf2, llt⟩ := box3 g1)
    go_ret
    exact ⟨rfl, hw0⟩
  have h100' : (es.length : Int) ≤ 100 := by omega
  cases hok : newOk id many t v b bt es with
  | false =>
    have HN : Hid (∀ W, Below w.heap.size w W → Calls Try.prog 9 #[.int .i64 id, .int .i64 many, ballotV t v, logV b bt la es.length lc] W (RetNo W)) := fun W h => new_no id many t v b bt la lc es W (hl.below h) hok
    clear hok hl hm hk hwi
    go_enter Try.func5, Try.ntmps5
    go_wp2_with (first
      | (go_at_call 8; refine (raftAwake_any _).mono ?_; rintro e w1 ⟨rfl, hb1⟩; replace hw0 := hw0.trans (hb1.mono hw0.size); replace g0 := blk_keep hb1 g0; replace g1 := blk_keep hb1 g1; obtain ⟨bc0, bc1, bf0, bf1, blt⟩ := box2 g0; obtain ⟨lc0, lc1, lc2, lf0, lf1, lf2, llt⟩ := box3 g1)
      | (go_at_call 9; refine (HN.out _ hw0).mono ?_; rintro e w2 ⟨rfl, hb2⟩; replace hw0 := hw0.trans (hb2.mono hw0.size)))
    go_ret
    exact ⟨rfl, hw0⟩
  | true =>
    obtain ⟨n, rfl⟩ : ∃ n : Nat, many = (n : Int) := ⟨many.toNat, by unfold newOk at hok; rw [decide_eq_true_eq] at hok; omega⟩
    obtain ⟨hbt, hmok⟩ := newMb_ok hok
    subst hbt
    have hb0 : b = 0 := by unfold newOk at hok; rw [decide_eq_true_eq] at hok; exact hok.2.2.2.2.2.2.1
    subst hb0
    have HN : Hid (∀ W, Below w.heap.size w W → Calls Try.prog 9 #[.int .i64 id, .int .i64 (n : Int), ballotV t v, logV 0 0 la es.length lc] W (RetNew (newMb id n t v es) W)) := fun W h => new_yes id t v n la lc es W (hl.below h) hok
    obtain ⟨C, hC⟩ : ∃ C : Bool, C = (xd == id && xf != id && decide (1 ≤ xf) && decide (xf ≤ (n : Int)) && decide (1 ≤ xt) && decide (xt ≤ 1073741824) && decide (0 ≤ xk) && decide (xk ≤ 3)) := ⟨_, rfl⟩
    have hprog : (newMb id n t v es).prog.length = n := by simp [newMb]
    have hprog2 : (newMb id n t v es).id = id := rfl
    have HHE : C = false → (newMb id n t v es).hears ⟨xk, xf, xd, xt, xi, xl, xc, xy, xe⟩ = false := fun hc => by
      unfold Mb.hears
      rw [decide_eq_false_iff_not, hprog, hprog2]
      rintro ⟨q1, q2, q3, q4, q5, q6, q7, q8⟩
      simp only at q1 q2 q3 q4 q5 q6 q7 q8
      rw [hc] at hC
      simp [q1, q2, q3, q4, q5, q6, q7, q8] at hC
    have HH : Hid (C = false → ∀ W B a, MAt W B a (newMb id n t v es) → Calls Try.prog 17 #[.pointer (some ⟨B, 0, none⟩), .agg #[.int .i64 xk, .int .i64 xf, .int .i64 xd, .int .i64 xt, .int .i64 xi, .int .i64 xl, .int .i64 xc, .bool xy, .slice am xe.length cm]] W (RetR (newMb id n t v es) [] B a W)) := fun hc W B a hW => hear_quiet hW hmok ⟨xk, xf, xd, xt, xi, xl, xc, xy, xe⟩ am cm hk hwi (HHE hc)
    have HLOGS : Hid (∀ W A c, W.ownsRow 0 47 7 (.slice A es.length c) es.length (ensV es) → Below w.heap.size w W → Calls Try.prog 13 #[logV 0 0 A es.length c, logV 0 0 la es.length lc] W fun e w' => e = .returned (.bool true) ∧ Below W.heap.size W w') := fun W A c ho hW => by
      have := logs_any 0 0 A c es 0 0 la lc es W (LogIn.of_own ho) (hl.below hW)
      simpa using this
    have HRO : Hid (∀ W B a, MAt W B a (newMb id n t v es) → Calls Try.prog 12 #[.pointer (some ⟨B, 0, none⟩)] W fun e w' => e = .returned (.int .i64 0) ∧ Below W.heap.size W w') := fun W B a h => role_any h
    have HSE : Hid (∀ W B a, MAt W B a (newMb id n t v es) → Calls Try.prog 15 #[.pointer (some ⟨B, 0, none⟩)] W fun e w' => e = .returned (.int .i64 0) ∧ Below W.heap.size W w') := fun W B a h => settled_any h
    have HBA : Hid (∀ W B a, MAt W B a (newMb id n t v es) → Calls Try.prog 11 #[.pointer (some ⟨B, 0, none⟩)] W fun e w' => e = .returned (ballotV t v) ∧ Below W.heap.size W w') := fun W B a h => ballot_any h
    have HLO : Hid (∀ W B a, MAt W B a (newMb id n t v es) → Calls Try.prog 14 #[.pointer (some ⟨B, 0, none⟩)] W (RetLogM es W)) := fun W B a h => mlog_any h hmok.len64
    generalize newMb id n t v es = m0 at *
    have HC := Lib.hid hC
    clear hC HHE hprog hprog2 hmok hok hl hm hk hwi
    go_enter Try.func5, Try.ntmps5
    go_upto_region 7 with (first
      | (go_at_call 8; refine (raftAwake_any _).mono ?_; rintro e w1 ⟨rfl, hb1⟩; replace hw0 := hw0.trans (hb1.mono hw0.size); replace g0 := blk_keep hb1 g0; replace g1 := blk_keep hb1 g1; replace g2 := blk_keep hb1 g2; obtain ⟨bc0, bc1, bf0, bf1, blt⟩ := box2 g0; obtain ⟨lc0, lc1, lc2, lf0, lf1, lf2, llt⟩ := box3 g1)
      | (go_at_call 9; refine (HN.out _ hw0).mono ?_; rintro e w2 ⟨B, a, rfl, H2, hF2, hb2⟩; have hws := hw0.size; have hne0 : w.heap.size ∉ foot B a := (fun hc => by have := hF2 _ hc; have := blk_lt g0; omega); have hne1 : w.heap.size + 1 ∉ foot B a := (fun hc => by have := hF2 _ hc; have := blk_lt g1; omega); replace hw0 := hw0.trans (hb2.mono hw0.size); replace g0 := blk_keep hb2 g0; replace g1 := blk_keep hb2 g1; replace g2 := blk_keep hb2 g2; obtain ⟨xc0, xc1, xc2, xc3, xc4, xc5, xc6, xc7, xc8⟩ := box9 g2; have xlt := blk_lt g2))
    go_cut [82] (fun c wx => c = .bool C ∧ wx = w2)
    case first =>
      have e1 : ∃ q, (xd == id) = q := ⟨_, rfl⟩
      have e2 : ∃ q, (xf != id) = q := ⟨_, rfl⟩
      obtain ⟨q1, e1⟩ := e1
      obtain ⟨q2, e2⟩ := e2
      rw [e1, e2] at HC
      cases q1 <;> cases q2
      all_goals (go_wp2_with fail)
      all_goals go_meet
      all_goals exact ⟨by (rw [HC.out]; simp_all; try omega), rfl⟩
    case rest =>
      obtain ⟨rfl, hwx⟩ := hcut
      subst hwx
      cases C with
      | true =>
        go_wp2
        go_ret
        exact ⟨rfl, hw0⟩
      | false =>
        have HHE := Lib.hid (HH.out rfl _ _ _ H2)
        clear HH HC HN
        have hfl := fieldLog
        go_wp2_with (go_at_call 17; refine HHE.out.mono ?_; rintro e w3 ⟨a3, B3, A3, c3, sl3, rfl, H3, S3, hB3, hf3, hms3⟩; have hb3 : Below w.heap.size w w3 := hw0.trans (S3.chg.to_below (fun x hx => Nat.le_trans hws (hF2 x hx)) hw0.size); have G0 := S3.keep g0 hne0; have G1 := S3.keep g1 hne1; obtain ⟨bc0, bc1, bf0, bf1, blt⟩ := box2 G0; obtain ⟨lc0, lc1, lc2, lf0, lf1, lf2, llt⟩ := box3 G1)
        have HLO3 := Lib.hid (HLO.out _ _ _ H3.drew)
        go_cut [15] (fun c wx => c = .bool true ∧ MAt wx B a3 m0 ∧ Below w.heap.size w wx ∧ wx.heap[w.heap.size]? = some (.cells #[.int .i64 t, .int .i64 v] 23))
        case first =>
          go_region_held3 (fun W => W.cell? ⟨w.heap.size + 1, 0, none⟩ = some (.int .i64 0) ∧ W.cell? ⟨w.heap.size + 1, 1, none⟩ = some (.int .i64 0) ∧ W.cell? ⟨w.heap.size + 1, 2, none⟩ = some (.slice la es.length lc)) (first | with_reducible exact ⟨lc0, lc1, lc2⟩ | with_reducible exact ⟨kc0, kc1, kc2⟩ | with_reducible exact ⟨jc0, jc1, jc2⟩ | go_keep) (first
            | (go_at_call 14; refine HLO3.out.mono ?_; rintro e w4 ⟨A4, c4, rfl, own4, hb4⟩; have hb4' : Below w.heap.size w w4 := hb3.drew.trans (hb4.mono hb3.size); have K0 := blk_keep hb4 (blk_drawn G0); have K1 := blk_keep hb4 (blk_drawn G1); obtain ⟨kc0, kc1, kc2, kf0, kf1, kf2, klt⟩ := box3 K1; have H4 := H3.drew.below hb4)
            | (go_at_call 13; refine (HLOGS.out _ _ _ (own_base own4 (Nat.zero_le _)) hb4').mono ?_; rintro e w5 ⟨rfl, hb5⟩; have hb5' := hb4'.trans (hb5.mono hb4'.size); have J0 := blk_keep hb5 K0; have J1 := blk_keep hb5 K1; obtain ⟨jc0, jc1, jc2, jf0, jf1, jf2, jlt⟩ := box3 J1; have H5 := H4.below hb5))
          all_goals (go_wp2_with fail; go_meet)
          all_goals exact ⟨rfl, H5, hb5', J0⟩
        case rest =>
          obtain ⟨rfl, H6, hb6, G6⟩ := hcut
          clear bc0 bc1 bf0 bf1 blt lc0 lc1 lc2 lf0 lf1 lf2 llt
          obtain ⟨bc0, bc1, bf0, bf1, blt⟩ := box2 G6
          go_wp2
          have HBA6 := Lib.hid (HBA.out _ _ _ H6.drew)
          go_region_held3 (fun W => W.cell? ⟨w.heap.size, 0, none⟩ = some (.int .i64 t) ∧ W.cell? ⟨w.heap.size, 1, none⟩ = some (.int .i64 v)) (first | with_reducible exact ⟨bc0, bc1⟩ | with_reducible exact ⟨kc0, kc1⟩ | with_reducible exact ⟨jc0, jc1⟩ | with_reducible exact ⟨ic0, ic1⟩ | go_keep) (first
            | (go_at_call 11; refine HBA6.out.mono ?_; rintro e w7 ⟨rfl, hb7⟩; have hb7' : Below w.heap.size w w7 := hb6.drew.trans (hb7.mono hb6.size); have K7 := blk_keep hb7 (blk_drawn G6); obtain ⟨kc0, kc1, kf0, kf1, klt⟩ := box2 K7; have H7 := H6.drew.below hb7; have HRO7 := Lib.hid (HRO.out _ _ _ H7))
            | (go_at_call 12; refine HRO7.out.mono ?_; rintro e w8 ⟨rfl, hb8⟩; have hb8' : Below w.heap.size w w8 := hb7'.trans (hb8.mono hb7'.size); have K8 := blk_keep hb8 K7; obtain ⟨jc0, jc1, jf0, jf1, jlt⟩ := box2 K8; have H8 := H7.below hb8; have HSE8 := Lib.hid (HSE.out _ _ _ H8))
            | (go_at_call 15; refine HSE8.out.mono ?_; rintro e w9 ⟨rfl, hb9⟩; have hb9' : Below w.heap.size w w9 := hb8'.trans (hb9.mono hb8'.size); have K9 := blk_keep hb9 K8; obtain ⟨ic0, ic1, if0, if1, ilt⟩ := box2 K9))
          all_goals go_wp2
          all_goals go_ret
          all_goals exact ⟨rfl, hb9'⟩
end Go.Proofs.Ytlejbhgginolgaa
