/-
  Bh: several texts in one.
-/
import Derived.Test.YthjdbmfobmnnlaaGreatBg
/-
  A member times out.
-/
namespace Go.Proofs.YthjdbmfobmnnlaaGreat
open Go.RowKit
set_option linter.unusedVariables false
/-- 'clear' of the votes. -/
theorem wpList_clear {w : World} {ops : Array Oper} {rest : List Oper} {o : Oper} {a : Act} {Q : Exit → Act → World → Prop} (hgd : o.guard = none) (x : Operand)
    (ho : o.op = .call { callee := .builtin .clear, args := #[x], argTypes := #[123] }) {b : Nat} {vs : List Int} (hx : a.eval x = .map (some b)) (hv : VotesAt w b vs)
    (h : ∀ w', VotesAt w' b [] → Chg [b] w w' → wpList Tryz.prog ops Q rest (a.put o.dst (.tuple #[])) w') : wpList Tryz.prog ops Q (o :: rest) a w :=
  wpList_plain hgd fun K hK => by
    obtain ⟨w', hrun, h2, h3⟩ := hv.clear o.type
    unfold Oper.wp execOp
    simp only [ho, resolve, invoke, builtin, Sem.run_bind, Sem.run_pure, Result.andThen_ok, List.map_toArray, List.map_cons, List.map_nil, hx, hrun]
    exact hK _ _ (h w' h2 h3)
set_option maxRecDepth 100000 in
/-- A vote is noted. -/
theorem wpList_vote {w : World} {ops : Array Oper} {rest : List Oper} {o : Oper} {a : Act} {Q : Exit → Act → World → Prop} (hgd : o.guard = none) (x y : Operand)
    (ho : o.op = .mapUpdate 123 x y (.const (.bool true))) {b : Nat} {vs : List Int} {k : Int} (hx : a.eval x = .map (some b)) (hy : a.eval y = .int .i64 k) (hv : VotesAt w b vs) (h1 : 1 ≤ k) (h2 : k ≤ 16) (hn : (if k ∈ vs then vs else vs ++ [k]).length ≤ 16)
    (h : ∀ w', VotesAt w' b (if k ∈ vs then vs else vs ++ [k]) → Chg [b] w w' → wpList Tryz.prog ops Q rest (a.put o.dst undef) w') : wpList Tryz.prog ops Q (o :: rest) a w := by
  obtain ⟨D, ho', hh, hs⟩ := hv
  exact wpList_mapUpdate_in w hgd x y (.const (.bool true)) 123 ho 3 4 voteK Tryz.underlying123 (plainElem Tryz.prog 4) b 16 D hx ho' (by unfold maxLen; omega) _ _ _ hy rfl (voteKey h1 h2) (.lit (.bool true)) [] (plainElem_bool (H := Unit) Tryz.underlying4 true) fun w' q1 q2 => h w' (VotesAt.putD ho' hh hs k h1 h2 hn q1) (VotesAt.turned q2)
theorem MAt.newVotes {w w' : World} {b : Nat} {a : MA} {m : Mb} (h : MAt w b a m) (hc : Chg [a.vb] w w') {vs : List Int} (hv : VotesAt w' a.vb vs) : MAt w' b a { m with votes := vs } := by
  obtain ⟨a1, a2, a3, a4, a5, a6⟩ := h.apart
  exact ⟨hc.keep h.blk (by simpa using Ne.symm a1), own_chg h.log hc (fun x hx => by simpa using a5 x hx), hv, own_chg h.prog hc (fun x hx => by simp only [blkOf, List.mem_singleton] at hx; subst hx; simpa using Ne.symm a4)⟩
theorem Step.votes {w w1 w2 : World} {b : Nat} {a a1 : MA} (h : Step w b a w1 a1) (hc : Chg [a1.vb] w1 w2) : Step w b a w2 a1 := h.trans ⟨hc.mono fun x hx => by rw [List.mem_singleton] at hx; subst hx; exact .inl (foot_v b a1), fun x hx => .inl hx⟩
theorem RetR.nil {w w' : World} {b : Nat} {a a' : MA} {m' : Mb} (h : MAt w' b a' m') (hs : Step w b a w' a') : RetR m' [] b a w (.returned (.slice none 0 0)) w' := ⟨a', w'.heap.size, none, 0, [], rfl, h, hs, hs.chg.size, h.lt, MsAt.nil _ _⟩
section
variable {w : World} {b : Nat} {a : MA} {m : Mb}
set_option maxRecDepth 100000 in
set_option maxHeartbeats 6400000 in
theorem timeout_any (h : MAt w b a m) (hok : MbOk m) : Calls Tryz.prog 28 #[.pointer (some ⟨b, 0, none⟩)] w (RetR m.timeout.1 m.timeout.2 b a w) := by
  have n1 := hok.n1
  have n16 := hok.n16
  have hal := below1 w (.cells #[.pointer (some ⟨b, 0, none⟩)] 60)
  have gQ := blk_new w (.cells #[.pointer (some ⟨b, 0, none⟩)] 60)
  have HA := Lib.hid (h.below hal)
  have hnq := h.new (Nat.le_refl _)
  obtain ⟨c0, c1, c2, c3, c4, c5, c6, c7, c8, c9, hlt⟩ := box10 (h.below hal).blk
  by_cases hr : m.role = 2
  · rw [show m.timeout = (m, []) from if_pos (.inl hr)]
    have hr1 : (m.role == 2) = true := by simpa using hr
    clear hr
    go_enter Tryz.func28, Tryz.ntmps28
    go_wp2
    go_ret
    exact RetR.nil HA.out (.of_below hal)
  have hr1 : (m.role == 2) = false := by simpa using hr
  by_cases hT : 1073741824 ≤ m.term
  · rw [show m.timeout = (m, []) from if_pos (.inr hT)]
    clear hr
    go_enter Tryz.func28, Tryz.ntmps28
    go_wp2
    go_ret
    exact RetR.nil HA.out (.of_below hal)
  have hT0 := (mayV_true hok.ballot).1
  have HTO : Hid (m.timeout = if m.stand.won = true then (m.stand.lead, m.stand.lead.adds) else (m.stand, m.stand.asks)) := if_neg (by omega)
  have HOKS := Lib.hid (hok.stand (by omega))
  have hT1 : m.term < 1073741824 := by omega
  clear hr hT
  have hid1 := hok.id1
  have hid16 : m.id ≤ 16 := by have := hok.idn; omega
  obtain ⟨q0, qlt⟩ : (w.alloc (.cells #[.pointer (some ⟨b, 0, none⟩)] 60)).cell? ⟨w.heap.size, 0, none⟩ = some (.pointer (some ⟨b, 0, none⟩)) ∧ w.heap.size < (w.alloc (.cells #[.pointer (some ⟨b, 0, none⟩)] 60)).heap.size := ⟨blk_cell gQ 0, blk_lt gQ⟩
  have hbq : b ≠ w.heap.size := fun e => hnq (e ▸ foot_b b a)
  have hSt0 : Step w b a (w.alloc (.cells #[.pointer (some ⟨b, 0, none⟩)] 60)) a := .of_below hal
  obtain ⟨fr0, fr1, fr2, fr3, fr4, fr5, fr6, fr7, fr8, fr9⟩ := fro9 (h.below hal).blk
  go_enter Tryz.func28, Tryz.ntmps28
  go_wp2
  generalize w.alloc (.cells #[.pointer (some ⟨b, 0, none⟩)] 60) = W0 at *
  generalize w.heap.size = Q at *
  have hwr : IntKind.i64.wrap (m.term + 1) = m.term + 1 := wrap_id (by omega) (by omega)
  go_still_tail 14, (by kernel_rfl)
  show wpList _ _ _ _ _ W0.drew
  have HM1 : MAt (((W0.setCell ⟨b, 1, none⟩ (.int .i64 (m.term + 1))).setCell ⟨b, 2, none⟩ (.int .i64 m.id)).setCell ⟨b, 6, none⟩ (.int .i64 1)).drew b a { m with term := m.term + 1, vote := m.id, role := 1 } :=
    (((HA.out.store 1 (.int .i64 (m.term + 1)) (m' := { m with term := m.term + 1 }) rfl rfl rfl rfl).store 2 (.int .i64 m.id) (m' := { m with term := m.term + 1, vote := m.id }) rfl rfl rfl rfl).store 6 (.int .i64 1) (m' := { m with term := m.term + 1, vote := m.id, role := 1 }) rfl rfl rfl rfl).drew
  have S1 := (((hSt0.store 1 (.int .i64 (m.term + 1))).store 2 (.int .i64 m.id)).store 6 (.int .i64 1)).drew
  have HQ1 : (((W0.setCell ⟨b, 1, none⟩ (.int .i64 (m.term + 1))).setCell ⟨b, 2, none⟩ (.int .i64 m.id)).setCell ⟨b, 6, none⟩ (.int .i64 1)).drew.heap[Q]? = some (.cells #[.pointer (some ⟨b, 0, none⟩)] 60) := blk_far (blk_far (blk_far gQ (Ne.symm hbq) _) (Ne.symm hbq) _) (Ne.symm hbq) _
  have HV1 := HM1.votes
  go_wp2_with (refine wpList_clear rfl (.tmp 36) (by rfl) (by rfl) HV1 ?_; intro w2 hv2 hc2; have HM2 := HM1.newVotes hc2 hv2; have S2 := S1.votes hc2; have HQ2 := hc2.keep HQ1 (by simp only [List.mem_singleton]; intro e; exact hnq (e ▸ foot_v b a)); obtain ⟨d0, d1, d2, d3, d4, d5, d6, d7, d8, d9, dlt⟩ := box10 HM2.blk; have q2 := blk_cell HQ2 0; have q2l := blk_lt HQ2)
  clear c0 c1 c2 c3 c4 c5 c6 c7 c8 c9 hlt fr0 fr1 fr2 fr3 fr4 fr5 fr6 fr7 fr8 fr9 q0 qlt hwr HM1 S1 HQ1 HV1 gQ hSt0
  go_still_tail 8, (by kernel_rfl)
  show wpList _ _ _ _ _ w2.drew
  refine wpList_vote rfl (.tmp 40) (.tmp 44) (by rfl) (by rfl) (by rfl) HM2.drew.votes hid1 hid16 (by simp) ?_
  intro w3 hv3 hc3
  have HM3 : MAt w3 b a m.stand := HM2.drew.newVotes hc3 hv3
  have S3 := S2.drew.votes hc3
  have HQ3 := hc3.keep (blk_drawn HQ2) (by simp only [List.mem_singleton]; intro e; exact hnq (e ▸ foot_v b a))
  clear d0 d1 d2 d3 d4 d5 d6 d7 d8 d9 dlt q2 q2l HM2 hv2 hv3 HQ2
  have q3 := blk_cell HQ3 0
  have q3l := blk_lt HQ3
  have HWON := Lib.hid (won_any HM3 HOKS.out)
  have HMH := Lib.hid HM3
  have HQH := Lib.hid HQ3
  cases hw : m.stand.won with
  | true =>
    rw [hw] at HWON
    have HTE : Hid (m.timeout = (m.stand.lead, m.stand.lead.adds)) := by rw [Hid, HTO.out, if_pos hw]
    clear hw HTO
    go_wp2_with (first
      | (go_at_call 62; refine HWON.out.mono ?_; rintro e w4 ⟨rfl, hb4⟩; have HL := Lib.hid (lead_any (HMH.out.below hb4) HOKS.out (by show 1 ≤ m.term + 1; omega)); have q4 := blk_cell (blk_keep hb4 HQH.out) 0; have q4l := blk_lt (blk_keep hb4 HQH.out))
      | (go_at_call 63; refine HL.out.mono ?_; rintro e w5 ⟨a5, B5, A5, c5, sl5, rfl, H5, S5, hB5, hF5, hms5⟩))
    go_ret
    rw [HTE.out]
    exact ⟨a5, B5, A5, c5, sl5, rfl, H5, (S3.below hb4).trans S5, Nat.le_trans (S3.below hb4).chg.size hB5, hF5, hms5⟩
  | false =>
    rw [hw] at HWON
    have HTE : Hid (m.timeout = (m.stand, m.stand.asks)) := by rw [Hid, HTO.out, if_neg (by rw [hw]; decide)]
    clear hw HTO
    go_wp2_with (first
      | (go_at_call 62; refine HWON.out.mono ?_; rintro e w4 ⟨rfl, hb4⟩; have HA4 := Lib.hid (asks_any (HMH.out.below hb4) HOKS.out Q (blk_keep hb4 HQH.out)); have q4 := blk_cell (blk_keep hb4 HQH.out) 0; have q4l := blk_lt (blk_keep hb4 HQH.out))
      | (go_at_call 64; refine HA4.out.mono ?_; rintro e w5 ⟨A5, c5, sl5, rfl, hms5, hb5⟩))
    go_ret
    rw [HTE.out]
    exact ⟨a, w4.heap.size, A5, c5, sl5, rfl, (HMH.out.below hb4).below hb5, (S3.below hb4).below hb5, (S3.below hb4).chg.size, (HMH.out.below hb4).lt, hms5⟩
end
end Go.Proofs.YthjdbmfobmnnlaaGreat

/-
  A member beats, and takes a command.
-/
namespace Go.Proofs.YthjdbmfobmnnlaaGreat
open Go.RowKit
set_option linter.unusedVariables false
/-- A command's index, what is said, and an error. -/
def RetP (r : Mb × Int × List Ms × Int) (b : Nat) (a : MA) (w : World) (en : Ending) (w' : World) : Prop :=
  ∃ a' B A c sl, en = .returned (.tuple #[.int .i64 r.2.1, .slice A r.2.2.1.length c, .int .i64 r.2.2.2]) ∧ MAt w' b a' r.1 ∧ Step w b a w' a' ∧ w.heap.size ≤ B ∧ (∀ x ∈ foot b a', x < B) ∧ MsAt w' B A c r.2.2.1 sl
theorem RetP.nil {w w' : World} {b : Nat} {a a' : MA} {m' : Mb} (e : Int) (h : MAt w' b a' m') (hs : Step w b a w' a') : RetP (m', 0, [], e) b a w (.returned (.tuple #[.int .i64 0, .slice none 0 0, .int .i64 e])) w' := ⟨a', w'.heap.size, none, 0, [], rfl, h, hs, hs.chg.size, h.lt, MsAt.nil _ _⟩
section
variable {w : World} {b : Nat} {a : MA} {m : Mb}
theorem beat_any (h : MAt w b a m) (hok : MbOk m) : Calls Tryz.prog 29 #[.pointer (some ⟨b, 0, none⟩)] w (RetR m.beat.1 m.beat.2 b a w) := by
  obtain ⟨c0, c1, c2, c3, c4, c5, c6, c7, c8, c9, hlt⟩ := box10 h.blk
  have HO := Lib.hid h
  by_cases hr : m.role = 2
  · have hr1 : (m.role != 2) = false := by simp [hr]
    have HB : Hid (m.beat = (m, m.adds)) := by rw [Hid, Mb.beat, if_pos hr]
    have HA := Lib.hid (adds_any h hok)
    clear hr
    go_enter Tryz.func29, Tryz.ntmps29
    go_wp2_with (go_at_call 64; refine HA.out.mono ?_; rintro e w1 ⟨A1, cc1, sl1, rfl, hms1, hb1⟩)
    go_ret
    rw [HB.out]
    exact ⟨a, w.heap.size, A1, cc1, sl1, rfl, HO.out.below hb1, .of_below hb1, Nat.le_refl _, HO.out.lt, hms1⟩
  · have hr1 : (m.role != 2) = true := by simpa using hr
    have HB : Hid (m.beat = (m, [])) := by rw [Hid, Mb.beat, if_neg hr]
    clear hr
    go_enter Tryz.func29, Tryz.ntmps29
    go_wp2
    go_ret
    rw [HB.out]
    exact RetR.nil HO.out (Step.refl _ _ _)
set_option maxRecDepth 100000 in
set_option maxHeartbeats 6400000 in
theorem propose_any (h : MAt w b a m) (hok : MbOk m) (c : Cm) : Calls Tryz.prog 68 #[.pointer (some ⟨b, 0, none⟩), cmV c] w (RetP (m.propose c) b a w) := by
  have hal := below1 w (.cells #[.int .i64 c.1, .int .i64 c.2.1, .int .i64 c.2.2.1, .int .i64 c.2.2.2.1, .int .i64 c.2.2.2.2.1, .int .i64 c.2.2.2.2.2] 80)
  have HA := Lib.hid (h.below hal)
  obtain ⟨c0, c1, c2, c3, c4, c5, c6, c7, c8, c9, hlt⟩ := box10 (h.below hal).blk
  by_cases hr : m.role = 2
  rotate_left 1
  · have hr1 : (m.role != 2) = true := by simpa using hr
    have HB : Hid (m.propose c = (m, 0, [], 8)) := by rw [Hid, Mb.propose, if_pos hr]
    clear hr
    go_enter Tryz.func68, Tryz.ntmps68
    go_wp2
    refine bodyPost_ret (v := .tuple #[.int .i64 0, .slice none 0 0, .int .i64 8]) (by simp [results, Tryz.results68, go_sem]) rfl ?_
    rw [HB.out]
    exact RetP.nil 8 HA.out (.of_below hal)
  have ht := hok.live (by omega)
  have hr1 : (m.role != 2) = false := by simp [hr]
  by_cases hf : 64 ≤ m.log.length
  · have HB : Hid (m.propose c = (m, 0, [], 7)) := by rw [Hid, Mb.propose, if_neg (by simpa using hr), if_pos hf]
    have HP := Lib.hid (put_full HA.out c hf)
    rw [show m.put c = m from if_pos hf] at HP
    clear hr hf
    go_enter Tryz.func68, Tryz.ntmps68
    go_wp2_with (go_at_call 115; refine HP.out.mono ?_; rintro e w1 ⟨a1, rfl, H1, S1⟩)
    refine bodyPost_ret (v := .tuple #[.int .i64 0, .slice none 0 0, .int .i64 7]) (by simp [results, Tryz.results68, go_sem]) rfl ?_
    rw [HB.out]
    exact RetP.nil 7 H1 (S1.pre hal)
  have HB : Hid (m.propose c = (m.took c, (lastF 0 0 (m.took c).log).1, (m.took c).adds, 0)) := by rw [Hid, Mb.propose, if_neg (by simpa using hr), if_neg hf]
  have HP := Lib.hid (put_room HA.out c (by omega))
  obtain ⟨id0, hid⟩ : ∃ i : Nat, m.id = (i : Int) + 1 := ⟨(m.id - 1).toNat, by have := hok.id1; omega⟩
  have hidn : id0 < m.prog.length := by have := hok.idn; omega
  have n16 := hok.n16
  have HOKP := Lib.hid (hok.put ht c)
  have hlp : (m.put c).prog.length = m.prog.length := by unfold Mb.put; split <;> rfl
  have hidp : (m.put c).id = m.id := by unfold Mb.put; split <;> rfl
  rw [hid] at hidp
  have HMARK : Hid ((m.put c).mark = (m.put c).setPr ((id0 : Int) + 1) ((lastF 0 0 (m.put c).log).1, ((m.put c).prAt ((id0 : Int) + 1)).2)) := by rw [Hid, ← hidp]; rfl
  have hX2 : 0 ≤ (lastF 0 0 (m.put c).log).1 ∧ (lastF 0 0 (m.put c).log).1 ≤ 64 := by rw [HOKP.out.lastF]; have := HOKP.out.len64; simp only; omega
  have HTOOK : Hid (m.took c = ((m.put c).mark).settle) := rfl
  generalize m.put c = mp at *
  obtain ⟨hX2, hX3⟩ := hX2
  have hi0 : (0 : Int) ≤ (id0 : Int) := by omega
  have hi1 : (id0 : Int) < (m.prog.length : Int) := by omega
  have hi2 : (id0 : Int) + 1 ≤ 16 := by omega
  have HIDP := Lib.hid hidp
  have HLP := Lib.hid hlp
  have hwr2 : IntKind.i64.wrap (id0 : Int) = (id0 : Int) := wrap_id (by omega) (by omega)
  clear hidp hlp hid hr hf
  go_enter Tryz.func68, Tryz.ntmps68
  go_wp2_with (go_at_call 115; refine HP.out.mono ?_; rintro e w1 ⟨a1, rfl, H1, S1⟩; have HLT2 := Lib.hid (mlast_any (H1.drew)); have hc0 := H1.c0 HIDP.out; have hc9 := H1.c9 HLP.out; have hbl := blk_lt H1.blk)
  go_region_law (first
    | (go_simp; go_at_call 114; refine HLT2.out.mono ?_; rintro e w2 ⟨rfl, hb2⟩; have H2 := H1.drew.below hb2; have e0 := H2.c0 HIDP.out; have e9 := H2.c9 HLP.out; have fo0 := own_frozen H2.prog (id0 * 2); have co0 := own_cell H2.prog (prV_at (k := id0) (by rw [HLP.out]; exact hidn)).1; (try go_simp)))
  all_goals (
    have HM4 : MAt (w2.setCell ⟨a1.oa, id0 * 2, none⟩ (.int .i64 (lastF 0 0 mp.log).1)) b a1 mp.mark := by rw [HMARK.out]; exact H2.setMatch id0 (by rw [HLP.out]; exact hidn) _
    have S4 := (((S1.pre hal).drew).below hb2).storeO (id0 * 2) (.int .i64 (lastF 0 0 mp.log).1)
    have HSET := Lib.hid (settle_any HM4 HOKP.out.mark)
    rw [← HTOOK.out] at HSET
    have HOKT := Lib.hid (HOKP.out.mark.settle)
    rw [← HTOOK.out] at HOKT
    generalize m.took c = mt at HSET HOKT HB
    clear hwr2 hc0 hc9 e0 e9 fo0 co0
    go_wp2_with (first
      | (go_at_call 116; refine HSET.out.mono ?_; rintro e w5 ⟨a5, rfl, H5, S5⟩; have S6 := S4.trans S5; have HL5 := Lib.hid (mlast_any H5))
      | (go_at_call 114; with_reducible refine HL5.out.mono ?_; rintro e w6 ⟨rfl, hb6⟩; have HADDS := Lib.hid (adds_any (H5.below hb6) HOKT.out))
      | (go_at_call 64; refine HADDS.out.mono ?_; rintro e w7 ⟨A7, c7, sl7, rfl, hms7, hb7⟩))
    refine bodyPost_ret (v := .tuple #[.int .i64 (lastF 0 0 mt.log).1, .slice A7 mt.adds.length c7, .int .i64 0]) (by simp [results, Tryz.results68, go_sem, Mb.adds]) rfl ?_
    rw [HB.out]
    exact ⟨a5, w6.heap.size, A7, c7, sl7, rfl, (H5.below hb6).below hb7, (S6.below hb6).below hb7, (S6.below hb6).chg.size, (H5.below hb6).lt, hms7⟩)
end
end Go.Proofs.YthjdbmfobmnnlaaGreat

/-
  A member is asked for its vote.
-/
namespace Go.Proofs.YthjdbmfobmnnlaaGreat
open Go.RowKit
set_option linter.unusedVariables false
/-- One message, in a new row. -/
theorem MsAt.one {w : World} {base : Nat} (x : Ms) (a : Option Addr) (c : Nat) (hb : base ≤ w.heap.size) (he : w.ownsRow base 82 7 (.slice a x.ents.length c) x.ents.length (ensV x.ents)) :
    MsAt (w.alloc (.cells #[.int .i64 x.kind, .int .i64 x.frm, .int .i64 x.dst, .int .i64 x.term, .int .i64 x.index, .int .i64 x.lterm, .int .i64 x.commit, .bool x.yes, .slice a x.ents.length c] 70)) base (some ⟨w.heap.size, 0, none⟩) 1 [x] [(a, c)] := by
  refine ⟨?_, rfl, fun k hk => ?_⟩
  · have := World.ownsRow_lit (base := base) (e := 70) (size := 9) w #[.int .i64 x.kind, .int .i64 x.frm, .int .i64 x.dst, .int .i64 x.term, .int .i64 x.index, .int .i64 x.lterm, .int .i64 x.commit, .bool x.yes, .slice a x.ents.length c] 1 hb (by unfold maxLen; omega) (by rfl)
    simpa [msV, Ms.cells] using this
  · have hk0 : k = 0 := by simpa using hk
    subst hk0
    exact own_below he (below1 w _)
theorem RetR.one {w w1 w' : World} {b : Nat} {a a' : MA} {m' : Mb} (x : Ms) {A : Option Addr} {c : Nat} (h : MAt w1 b a' m') (hs : Step w b a w1 a') (he : w1.ownsRow w1.heap.size 82 7 (.slice A x.ents.length c) x.ents.length (ensV x.ents))
    (hw : w' = w1.alloc (.cells #[.int .i64 x.kind, .int .i64 x.frm, .int .i64 x.dst, .int .i64 x.term, .int .i64 x.index, .int .i64 x.lterm, .int .i64 x.commit, .bool x.yes, .slice A x.ents.length c] 70)) : RetR m' [x] b a w (.returned (.slice (some ⟨w1.heap.size, 0, none⟩) 1 1)) w' := by
  subst hw
  exact ⟨a', w1.heap.size, _, 1, _, rfl, h.below (below1 _ _), hs.below (below1 _ _), hs.chg.size, h.lt, MsAt.one x A c (Nat.le_refl _) he⟩
theorem MAt.far {w : World} {b : Nat} {a : MA} {m : Mb} (h : MAt w b a m) {F : Nat} (hF : F ∉ foot b a) (i : Nat) (v : Value) : MAt (w.setCell ⟨F, i, none⟩ v) b a m := h.chg ((Chg.refl [F] w).setCell (.inl (by simp)) i v) fun x hx hc => by rw [List.mem_singleton] at hc; subst hc; exact hF hx
theorem Step.fresh {w w1 : World} {b : Nat} {a a1 : MA} (h : Step w b a w1 a1) {F : Nat} (hF : w.heap.size ≤ F) (i : Nat) (v : Value) : Step w b a (w1.setCell ⟨F, i, none⟩ v) a1 := ⟨h.chg.setCell (.inr hF) i v, h.sub⟩
section
variable {w : World} {b : Nat} {a : MA} {m : Mb}
set_option maxRecDepth 100000 in
set_option maxHeartbeats 6400000 in
theorem asked_any (h : MAt w b a m) (x : Ms) (am : Option Addr) (cm : Nat) : Calls Tryz.prog 71 #[.pointer (some ⟨b, 0, none⟩), x.val am cm] w (RetR (m.asked x).1 (m.asked x).2 b a w) := by
  have HS : Hid (∀ W, Below w.heap.size w W → Calls Tryz.prog 66 #[.pointer (some ⟨b, 0, none⟩), .int .i64 1, .int .i64 x.frm] W fun e w' => e = .returned (.agg #[.int .i64 1, .int .i64 m.id, .int .i64 x.frm, .int .i64 m.term, .int .i64 0, .int .i64 0, .int .i64 0, .bool false, .slice none 0 0]) ∧ Below W.heap.size W w') := fun W hW => say_any (h.below hW) 1 x.frm
  have HG : Hid (∀ W, Below w.heap.size w W → Calls Tryz.prog 118 #[ballotV m.term m.vote, logV 0 0 a.la m.log.length a.lc, x.val am cm] W fun e w' => e = .returned (.tuple #[ballotV (grantF m.term m.vote 0 0 m.log x.frm x.term x.index x.lterm).1 (grantF m.term m.vote 0 0 m.log x.frm x.term x.index x.lterm).2.1, .bool (grantF m.term m.vote 0 0 m.log x.frm x.term x.index x.lterm).2.2]) ∧ Below W.heap.size W w') := fun W hW =>
    grant_any m.term m.vote 0 0 a.la a.lc m.log (x.kind, x.frm, x.dst, x.term, x.index, x.lterm, x.commit, x.yes, x.ents) am cm W (LogIn.of_own (own_below h.log hW))
  have HX : Hid (m.asked x = ({ m with term := (grantF m.term m.vote 0 0 m.log x.frm x.term x.index x.lterm).1, vote := (grantF m.term m.vote 0 0 m.log x.frm x.term x.index x.lterm).2.1 }, [⟨1, m.id, x.frm, m.term, 0, 0, 0, (grantF m.term m.vote 0 0 m.log x.frm x.term x.index x.lterm).2.2, []⟩])) := rfl
  generalize grantF m.term m.vote 0 0 m.log x.frm x.term x.index x.lterm = G at HG HX
  obtain ⟨gt, gv, gy⟩ := G
  simp only at HG HX
  have hal := below1 w (.cells #[.int .i64 x.kind, .int .i64 x.frm, .int .i64 x.dst, .int .i64 x.term, .int .i64 x.index, .int .i64 x.lterm, .int .i64 x.commit, .bool x.yes, .slice am x.ents.length cm] 70)
  have g0 := blk_new w (.cells #[.int .i64 x.kind, .int .i64 x.frm, .int .i64 x.dst, .int .i64 x.term, .int .i64 x.index, .int .i64 x.lterm, .int .i64 x.commit, .bool x.yes, .slice am x.ents.length cm] 70)
  have HO := Lib.hid h
  have hnx := h.new (Nat.le_refl w.heap.size)
  go_enter Tryz.func71, Tryz.ntmps71
  go_wp2_with (go_at_call 66; refine (HS.out _ hal).mono ?_; rintro e w1 ⟨rfl, hb1⟩; have hw1 := hal.trans (hb1.mono hal.size); have G0 := blk_keep hb1 g0)
  have hwA := hw1.trans ((below1 w1 (.cells #[.int .i64 1, .int .i64 m.id, .int .i64 x.frm, .int .i64 m.term, .int .i64 0, .int .i64 0, .int .i64 0, .bool false, .slice none 0 0] 70)).mono hw1.size)
  have G0' := blk_keep (below1 w1 (.cells #[.int .i64 1, .int .i64 m.id, .int .i64 x.frm, .int .i64 m.term, .int .i64 0, .int .i64 0, .int .i64 0, .bool false, .slice none 0 0] 70)) G0
  have G1 := blk_new w1 (.cells #[.int .i64 1, .int .i64 m.id, .int .i64 x.frm, .int .i64 m.term, .int .i64 0, .int .i64 0, .int .i64 0, .bool false, .slice none 0 0] 70)
  have hlt0 := blk_lt G0
  have hn1 : w1.heap.size ∉ foot b a := h.new hw1.size
  have hF1 : w.heap.size ≤ w1.heap.size := hw1.size
  clear hb1 hw1 G0 g0 hal
  generalize w1.alloc (.cells #[.int .i64 1, .int .i64 m.id, .int .i64 x.frm, .int .i64 m.term, .int .i64 0, .int .i64 0, .int .i64 0, .bool false, .slice none 0 0] 70) = W1 at *
  generalize w1.heap.size = F1 at *
  have hbF : b ≠ F1 := fun e => hn1 (e ▸ foot_b b a)
  have hbX : b ≠ w.heap.size := fun e => hnx (e ▸ foot_b b a)
  have H1 := HO.out.below hwA
  have HG2 := Lib.hid (HG.out W1.drew hwA.drew)
  obtain ⟨x0, x1, x2, x3, x4, x5, x6, x7, x8⟩ := box9 G0'
  obtain ⟨c0, c1, c2, c3, c4, c5, c6, c7, c8, c9, hlt⟩ := box10 H1.blk
  have flt := blk_lt G0'
  go_cut [5] (fun p wx => p = .pointer (some ⟨F1, 0, none⟩) ∧ wx.heap[F1]? = some (.cells #[.int .i64 1, .int .i64 m.id, .int .i64 x.frm, .int .i64 m.term, .int .i64 0, .int .i64 0, .int .i64 0, .bool gy, .slice none 0 0] 70) ∧ MAt wx b a { m with term := gt, vote := gv } ∧ Step w b a wx a)
  case first =>
    go_region_law (first
      | (go_simp; go_at_call 118; refine HG2.out.mono ?_; rintro e w3 ⟨rfl, hb3⟩; have H3 := H1.drew.below hb3; have G3 := blk_keep hb3 (blk_drawn G1); obtain ⟨fs0, fs1, fs2, fs3, fs4, fs5, fs6, fs7, fs8, fs9⟩ := fro9 G3; obtain ⟨y0, y1, y2, y3, y4, y5, y6, y7, y8⟩ := box9 G3; obtain ⟨d0, d1, d2, d3, d4, d5, d6, d7, d8, d9, dlt⟩ := box10 H3.blk; obtain ⟨fr0, fr1, fr2, fr3, fr4, fr5, fr6, fr7, fr8, fr9⟩ := fro9 H3.blk; have flt3 := blk_lt G3; have S3 : Step w b a w3 a := ((Step.of_below hwA).drew).below hb3; (try go_simp)))
    all_goals (go_wp2_with fail; go_meet)
    all_goals (first
      | exact ⟨rfl, blk_set (i := 7) (blk_far (blk_far G3 (Ne.symm hbF) _) (Ne.symm hbF) _) _, ((H3.store 1 (.int .i64 gt) (m' := { m with term := gt }) rfl rfl rfl rfl).store 2 (.int .i64 gv) (m' := { m with term := gt, vote := gv }) rfl rfl rfl rfl).far hn1 _ _, ((S3.store 1 _).store 2 _).fresh hF1 _ _⟩
      | exact ⟨rfl, blk_far (blk_far (blk_set (i := 7) G3 _) (Ne.symm hbF) _) (Ne.symm hbF) _, ((H3.far hn1 7 (.bool gy)).store 1 (.int .i64 gt) (m' := { m with term := gt }) rfl rfl rfl rfl).store 2 (.int .i64 gv) (m' := { m with term := gt, vote := gv }) rfl rfl rfl rfl, ((S3.fresh hF1 _ _).store 1 _).store 2 _⟩)
  case rest =>
    obtain ⟨rfl, G4, H4, S4⟩ := hcut
    obtain ⟨y0, y1, y2, y3, y4, y5, y6, y7, y8⟩ := box9 G4
    clear x0 x1 x2 x3 x4 x5 x6 x7 x8 c0 c1 c2 c3 c4 c5 c6 c7 c8 c9 hlt flt
    go_wp2
    go_ret
    rw [HX.out]
    exact RetR.one ⟨1, m.id, x.frm, m.term, 0, 0, 0, gy, []⟩ H4 S4 (World.ownsRow_nil _ _ _ _) rfl
end
end Go.Proofs.YthjdbmfobmnnlaaGreat
