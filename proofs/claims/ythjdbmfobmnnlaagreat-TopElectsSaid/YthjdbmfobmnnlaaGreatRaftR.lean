/-
  A member hears a message.
-/
import Derived.Test.YthjdbmfobmnnlaaGreatBi
import Derived.Test.YthjdbmfobmnnlaaGreatRaftO
import Derived.Test.YthjdbmfobmnnlaaGreatRaftP
namespace Go.Proofs.YthjdbmfobmnnlaaGreat
open Go.RowKit
set_option linter.unusedVariables false
theorem LogIn.chg {S : List Nat} {w w' : World} {am : Option Addr} {cm : Nat} {es : List En} (h : LogIn w am cm es) (hc : Chg S w w') (hd : es.length ≠ 0 → ∀ x ∈ blkOf am, x ∉ S) : LogIn w' am cm es := by
  refine ⟨?_, h.cap, h.none_, h.max⟩
  by_cases h0 : es.length = 0
  · obtain rfl := List.eq_nil_of_length_eq_zero h0
    exact RowAt.nil
  · exact h.row.chg hc (hd h0)
section
variable {w : World} {b : Nat} {a : MA} {m : Mb}
set_option maxRecDepth 100000 in
set_option maxHeartbeats 6400000 in
theorem hear_x (h : MAt w b a m) (xk xf xd xt xi xl xc : Int) (xy : Bool) (xe : List En) (am : Option Addr) (cm : Nat) (hk : (Lit.int .i64 xk).wf = true) (hok : MbOk m) (hq0 : m.hears ⟨xk, xf, xd, xt, xi, xl, xc, xy, xe⟩ = true → LogIn w am cm xe ∧ xe.length ≤ 1000000 ∧ (xe.length ≠ 0 → ∀ y ∈ blkOf am, y ∉ foot b a)) (hwi : -9223372036854775808 ≤ xi ∧ xi ≤ 9223372036854775807) :
    Calls Tryz.prog 32 #[.pointer (some ⟨b, 0, none⟩), .agg #[.int .i64 xk, .int .i64 xf, .int .i64 xd, .int .i64 xt, .int .i64 xi, .int .i64 xl, .int .i64 xc, .bool xy, .slice am xe.length cm]] w (RetR (m.hear ⟨xk, xf, xd, xt, xi, xl, xc, xy, xe⟩).1 (m.hear ⟨xk, xf, xd, xt, xi, xl, xc, xy, xe⟩).2 b a w) := by
  have hmm := @run_makeMap Tryz.prog
  have hal := below1 w (.cells #[.int .i64 xk, .int .i64 xf, .int .i64 xd, .int .i64 xt, .int .i64 xi, .int .i64 xl, .int .i64 xc, .bool xy, .slice am xe.length cm] 70)
  have g0 := blk_new w (.cells #[.int .i64 xk, .int .i64 xf, .int .i64 xd, .int .i64 xt, .int .i64 xi, .int .i64 xl, .int .i64 xc, .bool xy, .slice am xe.length cm] 70)
  have hal2 := hal.alloc hal.size (.map #[] 0)
  have g02 := blk_alloc g0 (.map #[] 0)
  have hm0 : FunsAt ((w.alloc (.cells #[.int .i64 xk, .int .i64 xf, .int .i64 xd, .int .i64 xt, .int .i64 xi, .int .i64 xl, .int .i64 xc, .bool xy, .slice am xe.length cm] 70)).alloc (.map #[] 0)) (w.heap.size + 1) b [] := by
    have := World.ownsMap_made (w.alloc (.cells #[.int .i64 xk, .int .i64 xf, .int .i64 xd, .int .i64 xt, .int .i64 xi, .int .i64 xl, .int .i64 xc, .bool xy, .slice am xe.length cm] 70)) Tryz.prog 3 (FR b)
    have e : (w.alloc (.cells #[.int .i64 xk, .int .i64 xf, .int .i64 xd, .int .i64 xt, .int .i64 xi, .int .i64 xl, .int .i64 xc, .bool xy, .slice am xe.length cm] 70)).heap.size = w.heap.size + 1 := by simp
    rw [e] at this
    exact this
  have HO := Lib.hid h
  go_enter Tryz.func32, Tryz.ntmps32
  go_upto_region 2 with (first
    | (refine wpList_insertF (l := []) rfl (.tmp 8) (.const (.int .i64 0)) (.tmp 10) (by rfl) (by rfl) (by rfl) (by rfl) hm0 (by decide) (by unfold maxLen; decide) ?_; intro w1 hm1' hc1; have hm1 : FunsAt w1 (w.heap.size + 1) b [(0, 71)] := hm1'; clear hm1')
    | (refine wpList_insertF (l := [(0, 71)]) rfl (.tmp 8) (.const (.int .i64 1)) (.tmp 12) (by rfl) (by rfl) (by rfl) (by rfl) hm1 (by decide) (by unfold maxLen; decide) ?_; intro w2 hm2' hc2; have hm2 : FunsAt w2 (w.heap.size + 1) b [(0, 71), (1, 72)] := hm2'; clear hm2')
    | (refine wpList_insertF (l := [(0, 71), (1, 72)]) rfl (.tmp 8) (.const (.int .i64 2)) (.tmp 14) (by rfl) (by rfl) (by rfl) (by rfl) hm2 (by decide) (by unfold maxLen; decide) ?_; intro w3 hm3' hc3; have hm3 : FunsAt w3 (w.heap.size + 1) b [(0, 71), (1, 72), (2, 73)] := hm3'; clear hm3')
    | (refine wpList_insertF (l := [(0, 71), (1, 72), (2, 73)]) rfl (.tmp 8) (.const (.int .i64 3)) (.tmp 16) (by rfl) (by rfl) (by rfl) (by rfl) hm3 (by decide) (by unfold maxLen; decide) ?_; intro w4 hm4' hc4; have hm4 : FunsAt w4 (w.heap.size + 1) b [(0, 71), (1, 72), (2, 73), (3, 74)] := hm4'; clear hm4'))
  have hb4 : Below w.heap.size w w4 := by
    have hsz : ((w.alloc (.cells #[.int .i64 xk, .int .i64 xf, .int .i64 xd, .int .i64 xt, .int .i64 xi, .int .i64 xl, .int .i64 xc, .bool xy, .slice am xe.length cm] 70)).alloc (.map #[] 0)).heap.size = w.heap.size + 2 := by simp
    have q : ∀ (a b : World), Chg [w.heap.size + 1] a b → w.heap.size ≤ a.heap.size → Below w.heap.size a b := fun a b hc hs => hc.to_below (fun x hx => by rw [List.mem_singleton] at hx; omega) hs
    have s1 := hc1.size
    have s2 := hc2.size
    have s3 := hc3.size
    exact (((hal2.trans (q _ _ hc1 (by omega))).trans (q _ _ hc2 (by omega))).trans (q _ _ hc3 (by omega))).trans (q _ _ hc4 (by omega))
  have gX : w4.heap[w.heap.size]? = some (.cells #[.int .i64 xk, .int .i64 xf, .int .i64 xd, .int .i64 xt, .int .i64 xi, .int .i64 xl, .int .i64 xc, .bool xy, .slice am xe.length cm] 70) := hc4.keep (hc3.keep (hc2.keep (hc1.keep g02 (by simp)) (by simp)) (by simp)) (by simp)
  have HLK := FunsAt.look _ _ _ _ hm4 xk hk
  clear hm0 hm1 hm2 hm3 hm4 hc1 hc2 hc3 hc4 hmm hal hal2 g0 g02
  obtain ⟨d, hd⟩ : ∃ d : Value, d = (if xk = 0 then .func (.func 71) #[.pointer (some ⟨b, 0, none⟩)] #[] else if xk = 1 then .func (.func 72) #[.pointer (some ⟨b, 0, none⟩)] #[] else if xk = 2 then .func (.func 73) #[.pointer (some ⟨b, 0, none⟩)] #[] else if xk = 3 then .func (.func 74) #[.pointer (some ⟨b, 0, none⟩)] #[] else .nilFunc) := ⟨_, rfl⟩
  rw [← hd] at HLK
  have HD := Lib.hid hd
  clear hd
  have H4 := HO.out.below hb4
  have HE := Lib.hid hok
  obtain ⟨x0, x1, x2, x3, x4, x5, x6, x7, x8⟩ := box9 gX
  obtain ⟨c0, c1, c2, c3, c4, c5, c6, c7, c8, c9, hlt⟩ := box10 H4.blk
  have flt := blk_lt gX
  go_wp2
  obtain ⟨O, hO⟩ : ∃ O : Bool, O = (decide (1 ≤ xf) && decide (xf ≤ (m.prog.length : Int)) && (xf != m.id)) := ⟨_, rfl⟩
  have HOB := Lib.hid hO
  clear hO
  go_cut [6, 7] (fun q p wx => q = d ∧ p = .bool O ∧ wx.heap[w.heap.size]? = some (.cells #[.int .i64 xk, .int .i64 xf, .int .i64 xd, .int .i64 xt, .int .i64 xi, .int .i64 xl, .int .i64 xc, .bool xy, .slice am xe.length cm] 70) ∧ MAt wx b a m ∧ Below w.heap.size w wx)
  case first =>
    by_cases p1 : 1 ≤ xf
    · by_cases p2 : xf ≤ (m.prog.length : Int)
      · go_quiet (fail)
        all_goals (go_wp2_with fail; go_meet)
        all_goals exact ⟨rfl, by rw [HOB.out]; simp [p1, p2], blk_many gX nq, H4.many nq, Below.many hb4 nq⟩
      · have p2' : decide (xf ≤ (m.prog.length : Int)) = false := by simpa using p2
        go_quiet (fail)
        all_goals (go_wp2_with fail; go_meet)
        all_goals exact ⟨rfl, by rw [HOB.out, p2']; simp, blk_many gX nq, H4.many nq, Below.many hb4 nq⟩
    · have p1' : decide (1 ≤ xf) = false := by simpa using p1
      go_quiet (fail)
      all_goals (go_wp2_with fail; go_meet)
      all_goals exact ⟨rfl, by rw [HOB.out, p1']; simp, blk_many gX nq, H4.many nq, Below.many hb4 nq⟩
  case rest =>
    obtain ⟨hq, rfl, gX5, H5, hb5⟩ := hcut
    subst hq
    clear x0 x1 x2 x3 x4 x5 x6 x7 x8 c0 c1 c2 c3 c4 c5 c6 c7 c8 c9 hlt flt HLK
    obtain ⟨x0, x1, x2, x3, x4, x5, x6, x7, x8⟩ := box9 gX5
    obtain ⟨c0, c1, c2, c3, c4, c5, c6, c7, c8, c9, hlt⟩ := box10 H5.blk
    have flt := blk_lt gX5
    have HO5 := Lib.hid H5
    have hnil : ∀ w, (binOp .eql 72 .nilFunc .nilFunc).run Tryz.prog w = .ok (.bool true) w := fun _ => by kernel_rfl
    by_cases e1 : xd = m.id
    rotate_left 1
    · have e1' : (xd != m.id) = true := by simpa using e1
      have HN : Hid (m.hear ⟨xk, xf, xd, xt, xi, xl, xc, xy, xe⟩ = (m, [])) := if_neg (by unfold Mb.hears; rw [decide_eq_true_eq]; rintro ⟨q, _⟩; exact e1 q)
      clear e1
      go_wp2
      go_quiet (fail)
      go_wp2
      go_ret
      rw [HN.out]
      exact RetR.nil (HO5.out.many _) (Step.of_below (Below.many hb5 _))
    have e1' : (xd != m.id) = false := by simp [e1]
    cases O with
    | false =>
      have HN : Hid (m.hear ⟨xk, xf, xd, xt, xi, xl, xc, xy, xe⟩ = (m, [])) := if_neg (by
        have := HOB.out
        unfold Mb.hears
        rw [decide_eq_true_eq]
        rintro ⟨_, q1, q2, q3, _⟩
        simp [q1, q2, q3] at this)
      clear e1
      go_wp2
      go_quiet (fail)
      go_wp2
      go_ret
      rw [HN.out]
      exact RetR.nil (HO5.out.many _) (Step.of_below (Below.many hb5 _))
    | true =>
      have hO := HOB.out
      have hO2 : 1 ≤ xf ∧ xf ≤ (m.prog.length : Int) ∧ xf ≠ m.id := by
        have := hO.symm
        simp only [Bool.and_eq_true, decide_eq_true_eq, bne_iff_ne] at this
        exact ⟨this.1.1, this.1.2, this.2⟩
      have HO2 := Lib.hid hO2
      clear hO hO2 HOB
      by_cases e2 : xt < 1
      · have HN : Hid (m.hear ⟨xk, xf, xd, xt, xi, xl, xc, xy, xe⟩ = (m, [])) := if_neg (by unfold Mb.hears; rw [decide_eq_true_eq]; rintro ⟨_, _, _, _, q, _⟩; simp only at q; omega)
        clear e1
        go_wp2
        go_quiet (fail)
        go_wp2
        go_ret
        rw [HN.out]
        exact RetR.nil (HO5.out.many _) (Step.of_below (Below.many hb5 _))
      have e2' : decide (xt < 1) = false := by simpa using e2
      by_cases e3 : 1073741824 < xt
      · have HN : Hid (m.hear ⟨xk, xf, xd, xt, xi, xl, xc, xy, xe⟩ = (m, [])) := if_neg (by unfold Mb.hears; rw [decide_eq_true_eq]; rintro ⟨_, _, _, _, _, q, _⟩; simp only at q; omega)
        clear e1 e2
        go_wp2
        go_quiet (fail)
        go_wp2
        go_ret
        rw [HN.out]
        exact RetR.nil (HO5.out.many _) (Step.of_below (Below.many hb5 _))
      have e3' : decide (1073741824 < xt) = false := by simpa using e3
      by_cases e4 : 0 ≤ xk ∧ xk ≤ 3
      rotate_left 1
      · have HN : Hid (m.hear ⟨xk, xf, xd, xt, xi, xl, xc, xy, xe⟩ = (m, [])) := if_neg (by unfold Mb.hears; rw [decide_eq_true_eq]; rintro ⟨_, _, _, _, _, _, q1, q2⟩; exact e4 ⟨q1, q2⟩)
        have hd := HD.out
        rw [if_neg (by omega), if_neg (by omega), if_neg (by omega), if_neg (by omega)] at hd
        subst hd
        clear e1 e2 e3 e4
        go_wp2
        go_quiet (fail)
        go_wp2
        go_ret
        rw [HN.out]
        exact RetR.nil (HO5.out.many _) (Step.of_below (Below.many hb5 _))
      have hhr : m.hears ⟨xk, xf, xd, xt, xi, xl, xc, xy, xe⟩ = true := by unfold Mb.hears; rw [decide_eq_true_eq]; exact ⟨e1, HO2.out.1, HO2.out.2.1, HO2.out.2.2, by simp only; omega, by simp only; omega, e4.1, e4.2⟩
      have HHE : Hid (m.hear ⟨xk, xf, xd, xt, xi, xl, xc, xy, xe⟩ = (m.seen ⟨xk, xf, xd, xt, xi, xl, xc, xy, xe⟩).acts ⟨xk, xf, xd, xt, xi, xl, xc, xy, xe⟩) := if_pos hhr
      have HQ0 := Lib.hid (hq0 hhr)
      clear hhr hq0
      have hex : ∃ n : Nat, u6 = .func (.func n) #[.pointer (some ⟨b, 0, none⟩)] #[] ∧ (xk = 0 → n = 71) ∧ (xk = 1 → n = 72) ∧ (xk = 2 → n = 73) ∧ (xk = 3 → n = 74) := by
        have hd := HD.out
        by_cases k0 : xk = 0
        · rw [if_pos k0] at hd
          exact ⟨_, hd, fun _ => rfl, fun e => by omega, fun e => by omega, fun e => by omega⟩
        rw [if_neg k0] at hd
        by_cases k1 : xk = 1
        · rw [if_pos k1] at hd
          exact ⟨_, hd, fun e => by omega, fun _ => rfl, fun e => by omega, fun e => by omega⟩
        rw [if_neg k1] at hd
        by_cases k2 : xk = 2
        · rw [if_pos k2] at hd
          exact ⟨_, hd, fun e => by omega, fun e => by omega, fun _ => rfl, fun e => by omega⟩
        rw [if_neg k2, if_pos (by omega)] at hd
        exact ⟨_, hd, fun e => by omega, fun e => by omega, fun e => by omega, fun _ => rfl⟩
      obtain ⟨n, hn, hns⟩ := hex
      have HNS := Lib.hid hns
      clear HD hns
      subst hn
      have hnf : ∀ w f c, (binOp .eql 72 (.func (.func n) f c) .nilFunc).run Tryz.prog w = .ok (.bool false) w := fun _ _ _ => by kernel_rfl
      have HK := Lib.hid e4
      have HTT : Hid (1 ≤ xt ∧ xt ≤ 1073741824) := ⟨by omega, by omega⟩
      clear e1 e4
      go_wp2
      go_quiet (fail)
      have H6 := HO5.out.many nq
      have gX6 := blk_many gX5 nq
      have hb6 := Below.many hb5 nq
      clear x0 x1 x2 x3 x4 x5 x6 x7 x8 c0 c1 c2 c3 c4 c5 c6 c7 c8 c9 hlt flt e1' e2 e2' e3 e3' HO5 gX5 H5 hb5 hb4 gX H4
      generalize wc.drewN nq = W6 at *
      have S6 : Step w b a W6 a := .of_below hb6
      have hnx := h.new (Nat.le_refl w.heap.size)
      have hbX : b ≠ w.heap.size := fun e => hnx (e ▸ foot_b b a)
      obtain ⟨x0, x1, x2, x3, x4, x5, x6, x7, x8⟩ := box9 gX6
      obtain ⟨c0, c1, c2, c3, c4, c5, c6, c7, c8, c9, hlt⟩ := box10 H6.blk
      obtain ⟨fr0, fr1, fr2, fr3, fr4, fr5, fr6, fr7, fr8, fr9⟩ := fro9 H6.blk
      have flt := blk_lt gX6
      go_wp2
      go_quiet (fail)
      replace H6 := H6.many nq
      replace gX6 := blk_many gX6 nq
      replace S6 := S6.many nq
      clear x0 x1 x2 x3 x4 x5 x6 x7 x8 c0 c1 c2 c3 c4 c5 c6 c7 c8 c9 hlt flt fr0 fr1 fr2 fr3 fr4 fr5 fr6 fr7 fr8 fr9 hb6
      generalize W6.drewN nq = W7 at *
      obtain ⟨x0, x1, x2, x3, x4, x5, x6, x7, x8⟩ := box9 gX6
      obtain ⟨c0, c1, c2, c3, c4, c5, c6, c7, c8, c9, hlt⟩ := box10 H6.blk
      have flt := blk_lt gX6
      go_upto_if 76 with (fail)
      go_cut [6] (fun q wx => q = .func (.func n) #[.pointer (some ⟨b, 0, none⟩)] #[] ∧ wx.heap[w.heap.size]? = some (.cells #[.int .i64 xk, .int .i64 xf, .int .i64 xd, .int .i64 xt, .int .i64 xi, .int .i64 xl, .int .i64 xc, .bool xy, .slice am xe.length cm] 70) ∧ MAt wx b a (m.seen ⟨xk, xf, xd, xt, xi, xl, xc, xy, xe⟩) ∧ Step w b a wx a)
      case first =>
        by_cases p1 : m.term < xt
        · have HSE : Hid (m.seen ⟨xk, xf, xd, xt, xi, xl, xc, xy, xe⟩ = { m with term := xt, vote := 0, role := 0 }) := if_pos p1
          have HSee := Lib.hid (see_any m.term m.vote xt W7.drew)
          have hsf : seeF m.term m.vote xt = (xt, 0) := if_pos ⟨p1, HTT.out.2⟩
          rw [hsf] at HSee
          clear hsf
          go_wp2
          go_region_law (first
            | (go_simp; go_at_call 75; refine HSee.out.mono ?_; rintro e w8 ⟨rfl, hb8⟩; have H8 := H6.drew.below hb8; have g8 := blk_keep hb8 (blk_drawn gX6); have S8 := (S6.drew).below hb8; obtain ⟨d0, d1, d2, d3, d4, d5, d6, d7, d8, d9, dlt⟩ := box10 H8.blk; obtain ⟨fr0, fr1, fr2, fr3, fr4, fr5, fr6, fr7, fr8, fr9⟩ := fro9 H8.blk; obtain ⟨y0, y1, y2, y3, y4, y5, y6, y7, y8⟩ := box9 g8; (try go_simp)))
          all_goals (go_wp2_with fail; go_meet)
          all_goals exact ⟨rfl, blk_far (blk_far (blk_far g8 (Ne.symm hbX) _) (Ne.symm hbX) _) (Ne.symm hbX) _, by rw [HSE.out]; exact ((H8.store 1 (.int .i64 xt) (m' := { m with term := xt }) rfl rfl rfl rfl).store 2 (.int .i64 0) (m' := { m with term := xt, vote := 0 }) rfl rfl rfl rfl).store 6 (.int .i64 0) (m' := { m with term := xt, vote := 0, role := 0 }) rfl rfl rfl rfl, ((S8.store 1 _).store 2 _).store 6 _⟩
        · have HSE : Hid (m.seen ⟨xk, xf, xd, xt, xi, xl, xc, xy, xe⟩ = m) := if_neg p1
          all_goals (go_wp2_with fail; go_meet)
          all_goals exact ⟨rfl, gX6, by rw [HSE.out]; exact H6, S6⟩
      case rest =>
        obtain ⟨hq, gX8, H8, S8⟩ := hcut
        subst hq
        have HOKS := Lib.hid (hok.seen ⟨xk, xf, xd, xt, xi, xl, xc, xy, xe⟩ HTT.out.2)
        obtain ⟨hl, hs, hdis⟩ := HQ0.out
        have HLI := Lib.hid (hl.chg S8.chg hdis)
        have hsl : (m.seen ⟨xk, xf, xd, xt, xi, xl, xc, xy, xe⟩).prog.length = m.prog.length := by unfold Mb.seen; split <;> rfl
        clear x0 x1 x2 x3 x4 x5 x6 x7 x8 c0 c1 c2 c3 c4 c5 c6 c7 c8 c9 hlt flt H6 gX6 S6 hnf
        obtain ⟨x0, x1, x2, x3, x4, x5, x6, x7, x8⟩ := box9 gX8
        have flt := blk_lt gX8
        by_cases k0 : xk = 0
        · obtain rfl := HNS.out.1 k0
          have HAC : Hid ((m.seen ⟨xk, xf, xd, xt, xi, xl, xc, xy, xe⟩).acts ⟨xk, xf, xd, xt, xi, xl, xc, xy, xe⟩ = (m.seen ⟨xk, xf, xd, xt, xi, xl, xc, xy, xe⟩).asked ⟨xk, xf, xd, xt, xi, xl, xc, xy, xe⟩) := by
            unfold Mb.acts
            simp only [k0]
            rfl
          have HCA := Lib.hid (asked_any H8 ⟨xk, xf, xd, xt, xi, xl, xc, xy, xe⟩ am cm)
          clear k0
          go_wp2_with (go_at_call 71; refine HCA.out.mono ?_; rintro e w9 ⟨a9, B9, A9, c9, sl9, rfl, H9, S9, hB9, hF9, hms9⟩)
          go_ret
          rw [HHE.out, HAC.out]
          exact ⟨a9, B9, A9, c9, sl9, rfl, H9, S8.trans S9, Nat.le_trans S8.chg.size hB9, hF9, hms9⟩
        by_cases k1 : xk = 1
        · obtain rfl := HNS.out.2.1 k1
          have HAC : Hid ((m.seen ⟨xk, xf, xd, xt, xi, xl, xc, xy, xe⟩).acts ⟨xk, xf, xd, xt, xi, xl, xc, xy, xe⟩ = (m.seen ⟨xk, xf, xd, xt, xi, xl, xc, xy, xe⟩).voted ⟨xk, xf, xd, xt, xi, xl, xc, xy, xe⟩) := by
            unfold Mb.acts
            simp only [k1]
            rfl
          have HCA := Lib.hid (voted_any H8 HOKS.out ⟨xk, xf, xd, xt, xi, xl, xc, xy, xe⟩ HO2.out.1 (by have := HO2.out.2.1; have := hok.n16; simp only; omega) am cm)
          clear k1
          go_wp2_with (go_at_call 72; refine HCA.out.mono ?_; rintro e w9 ⟨a9, B9, A9, c9, sl9, rfl, H9, S9, hB9, hF9, hms9⟩)
          go_ret
          rw [HHE.out, HAC.out]
          exact ⟨a9, B9, A9, c9, sl9, rfl, H9, S8.trans S9, Nat.le_trans S8.chg.size hB9, hF9, hms9⟩
        by_cases k2 : xk = 2
        · obtain rfl := HNS.out.2.2.1 k2
          have HAC : Hid ((m.seen ⟨xk, xf, xd, xt, xi, xl, xc, xy, xe⟩).acts ⟨xk, xf, xd, xt, xi, xl, xc, xy, xe⟩ = (m.seen ⟨xk, xf, xd, xt, xi, xl, xc, xy, xe⟩).add ⟨xk, xf, xd, xt, xi, xl, xc, xy, xe⟩) := by
            unfold Mb.acts
            simp only [k2]
            rfl
          have HCA := Lib.hid (add_any H8 HOKS.out ⟨xk, xf, xd, xt, xi, xl, xc, xy, xe⟩ am cm HLI.out hs hdis)
          clear k2
          go_wp2_with (go_at_call 73; refine HCA.out.mono ?_; rintro e w9 ⟨a9, B9, A9, c9, sl9, rfl, H9, S9, hB9, hF9, hms9⟩)
          go_ret
          rw [HHE.out, HAC.out]
          exact ⟨a9, B9, A9, c9, sl9, rfl, H9, S8.trans S9, Nat.le_trans S8.chg.size hB9, hF9, hms9⟩
        by_cases k3 : xk = 3
        · obtain rfl := HNS.out.2.2.2 k3
          have HAC : Hid ((m.seen ⟨xk, xf, xd, xt, xi, xl, xc, xy, xe⟩).acts ⟨xk, xf, xd, xt, xi, xl, xc, xy, xe⟩ = (m.seen ⟨xk, xf, xd, xt, xi, xl, xc, xy, xe⟩).added ⟨xk, xf, xd, xt, xi, xl, xc, xy, xe⟩) := by
            unfold Mb.acts
            simp only [k3]
            rfl
          have HCA := Lib.hid (added_any H8 HOKS.out ⟨xk, xf, xd, xt, xi, xl, xc, xy, xe⟩ am cm HO2.out.1 (by rw [hsl]; exact HO2.out.2.1) hwi)
          clear k3
          go_wp2_with (go_at_call 74; refine HCA.out.mono ?_; rintro e w9 ⟨a9, B9, A9, c9, sl9, rfl, H9, S9, hB9, hF9, hms9⟩)
          go_ret
          rw [HHE.out, HAC.out]
          exact ⟨a9, B9, A9, c9, sl9, rfl, H9, S8.trans S9, Nat.le_trans S8.chg.size hB9, hF9, hms9⟩
        exfalso
        have := HK.out
        omega
end
theorem hear_any {w : World} {b : Nat} {a : MA} {m : Mb} (h : MAt w b a m) (hok : MbOk m) (x : Ms) (am : Option Addr) (cm : Nat) (hk : (Lit.int .i64 x.kind).wf = true) (hwi : (Lit.int .i64 x.index).wf = true) (hq : m.hears x = true → LogIn w am cm x.ents ∧ x.ents.length ≤ 1000000 ∧ (x.ents.length ≠ 0 → ∀ y ∈ blkOf am, y ∉ foot b a)) :
    Calls Tryz.prog 32 #[.pointer (some ⟨b, 0, none⟩), x.val am cm] w (RetR (m.hear x).1 (m.hear x).2 b a w) := by
  obtain ⟨xk, xf, xd, xt, xi, xl, xc, xy, xe⟩ := x
  simp only at hk hwi hq
  exact hear_x h xk xf xd xt xi xl xc xy xe am cm hk hok hq (by simpa [Lit.wf, IntKind.min, IntKind.max, IntKind.bits, IntKind.signed] using hwi)
theorem hear_quiet {w : World} {b : Nat} {a : MA} {m : Mb} (h : MAt w b a m) (hok : MbOk m) (x : Ms) (am : Option Addr) (cm : Nat) (hk : (Lit.int .i64 x.kind).wf = true) (hwi : (Lit.int .i64 x.index).wf = true) (hq : m.hears x = false) :
    Calls Tryz.prog 32 #[.pointer (some ⟨b, 0, none⟩), x.val am cm] w (RetR m [] b a w) := by
  have := hear_any h hok x am cm hk hwi fun e => by rw [hq] at e; cases e
  have e : m.hear x = (m, []) := if_neg (by rw [hq]; decide)
  rwa [e] at this
end Go.Proofs.YthjdbmfobmnnlaaGreat
