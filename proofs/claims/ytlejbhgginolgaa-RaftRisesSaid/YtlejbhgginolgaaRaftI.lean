/-
  A member times out.
-/
import Derived.Test.YtlejbhgginolgaaRaftH
namespace Go.Proofs.Ytlejbhgginolgaa
open Go.RowKit
set_option linter.unusedVariables false
/-- 'clear' of the votes. -/
theorem wpList_clear {w : World} {ops : Array Oper} {rest : List Oper} {o : Oper} {a : Act} {Q : Exit → Act → World → Prop} (hgd : o.guard = none) (x : Operand)
    (ho : o.op = .call { callee := .builtin .clear, args := #[x], argTypes := #[63] }) {b : Nat} {vs : List Int} (hx : a.eval x = .map (some b)) (hv : VotesAt w b vs)
    (h : ∀ w', VotesAt w' b [] → Chg [b] w w' → wpList Try.prog ops Q rest (a.put o.dst (.tuple #[])) w') : wpList Try.prog ops Q (o :: rest) a w :=
  wpList_plain hgd fun K hK => by
    obtain ⟨w', hrun, h2, h3⟩ := hv.clear o.type
    unfold Oper.wp execOp
    simp only [ho, resolve, invoke, builtin, Sem.run_bind, Sem.run_pure, Result.andThen_ok, List.map_toArray, List.map_cons, List.map_nil, hx, hrun]
    exact hK _ _ (h w' h2 h3)
set_option maxRecDepth 100000 in
/-- A vote is noted. -/
theorem wpList_vote {w : World} {ops : Array Oper} {rest : List Oper} {o : Oper} {a : Act} {Q : Exit → Act → World → Prop} (hgd : o.guard = none) (x y : Operand)
    (ho : o.op = .mapUpdate 63 x y (.const (.bool true))) {b : Nat} {vs : List Int} {k : Int} (hx : a.eval x = .map (some b)) (hy : a.eval y = .int .i64 k) (hv : VotesAt w b vs) (h1 : 1 ≤ k) (h2 : k ≤ 16) (hn : (if k ∈ vs then vs else vs ++ [k]).length ≤ 16)
    (h : ∀ w', VotesAt w' b (if k ∈ vs then vs else vs ++ [k]) → Chg [b] w w' → wpList Try.prog ops Q rest (a.put o.dst undef) w') : wpList Try.prog ops Q (o :: rest) a w := by
  obtain ⟨D, ho', hh, hs⟩ := hv
  exact wpList_mapUpdate_in w hgd x y (.const (.bool true)) 63 ho 3 4 voteK Try.underlying63 (plainElem Try.prog 4) b 16 D hx ho' (by unfold maxLen; omega) _ _ _ hy rfl (voteKey h1 h2) (.lit (.bool true)) [] (plainElem_bool (H := Unit) Try.underlying4 true) fun w' q1 q2 => h w' (VotesAt.putD ho' hh hs k h1 h2 hn q1) (VotesAt.turned q2)
theorem MAt.newVotes {w w' : World} {b : Nat} {a : MA} {m : Mb} (h : MAt w b a m) (hc : Chg [a.vb] w w') {vs : List Int} (hv : VotesAt w' a.vb vs) : MAt w' b a { m with votes := vs } := by
  obtain ⟨a1, a2, a3, a4, a5, a6⟩ := h.apart
  exact ⟨hc.keep h.blk (by simpa using Ne.symm a1), own_chg h.log hc (fun x hx => by simpa using a5 x hx), hv, own_chg h.prog hc (fun x hx => by simp only [blkOf, List.mem_singleton] at hx; subst hx; simpa using Ne.symm a4)⟩
theorem Step.votes {w w1 w2 : World} {b : Nat} {a a1 : MA} (h : Step w b a w1 a1) (hc : Chg [a1.vb] w1 w2) : Step w b a w2 a1 := h.trans ⟨hc.mono fun x hx => by rw [List.mem_singleton] at hx; subst hx; exact .inl (foot_v b a1), fun x hx => .inl hx⟩
theorem RetR.nil {w w' : World} {b : Nat} {a a' : MA} {m' : Mb} (h : MAt w' b a' m') (hs : Step w b a w' a') : RetR m' [] b a w (.returned (.slice none 0 0)) w' := ⟨a', w'.heap.size, none, 0, [], rfl, h, hs, hs.chg.size, h.lt, MsAt.nil _ _⟩
section
variable {w : World} {b : Nat} {a : MA} {m : Mb}
set_option maxRecDepth 100000 in
set_option maxHeartbeats 6400000 in
theorem timeout_any (h : MAt w b a m) (hok : MbOk m) : Calls Try.prog 10 #[.pointer (some ⟨b, 0, none⟩)] w (RetR m.timeout.1 m.timeout.2 b a w) := by
  have n1 := hok.n1
  have n16 := hok.n16
  have hal := below1 w (.cells #[.pointer (some ⟨b, 0, none⟩)] 28)
  have gQ := blk_new w (.cells #[.pointer (some ⟨b, 0, none⟩)] 28)
  have HA := Lib.hid (h.below hal)
  have hnq := h.new (Nat.le_refl _)
  obtain ⟨c0, c1, c2, c3, c4, c5, c6, c7, c8, c9, hlt⟩ := box10 (h.below hal).blk
  by_cases hr : m.role = 2
  · rw [show m.timeout = (m, []) from if_pos (.inl hr)]
    have hr1 : (m.role == 2) = true := by simpa using hr
    clear hr
    go_enter Try.func10, Try.ntmps10
    go_wp2
    go_ret
    exact RetR.nil HA.out (.of_below hal)
  have hr1 : (m.role == 2) = false := by simpa using hr
  by_cases hT : 1073741824 ≤ m.term
  · rw [show m.timeout = (m, []) from if_pos (.inr hT)]
    clear hr
    go_enter Try.func10, Try.ntmps10
    go_wp2
    go_ret
    exact RetR.nil HA.out (.of_below hal)
  have hT0 := (mayV_true hok.ballot).1
  have HTO : Hid (m.timeout = if m.stand.won = true then (m.stand.lead, m.stand.lead.adds) else (m.stand, m.stand.asks)) := if_neg (by omega)
  have HOKS := Lib.hid (hok.stand (by omega))
  have hT1 : m.term < 1073741824 := by omega
  clear hr hT
  have hid1 := hok.id1
  have hid16 : m.id ≤ 16 := by have := hok.idn; omega
  obtain ⟨q0, qlt⟩ : (w.alloc (.cells #[.pointer (some ⟨b, 0, none⟩)] 28)).cell? ⟨w.heap.size, 0, none⟩ = some (.pointer (some ⟨b, 0, none⟩)) ∧ w.heap.size < (w.alloc (.cells #[.pointer (some ⟨b, 0, none⟩)] 28)).heap.size := ⟨blk_cell gQ 0, blk_lt gQ⟩
  have hbq : b ≠ w.heap.size := fun e => hnq (e ▸ foot_b b a)
  have hSt0 : Step w b a (w.alloc (.cells #[.pointer (some ⟨b, 0, none⟩)] 28)) a := .of_below hal
  obtain ⟨fr0, fr1, fr2, fr3, fr4, fr5, fr6, fr7, fr8, fr9⟩ := fro9 (h.below hal).blk
  go_enter Try.func10, Try.ntmps10
  go_wp2
  generalize w.alloc (.cells #[.pointer (some ⟨b, 0, none⟩)] 28) = W0 at *
  generalize w.heap.size = Q at *
  have hwr : IntKind.i64.wrap (m.term + 1) = m.term + 1 := wrap_id (by omega) (by omega)
  go_still_tail 14, (by kernel_rfl)
  show wpList _ _ _ _ _ W0.drew
  have HM1 : MAt (((W0.setCell ⟨b, 1, none⟩ (.int .i64 (m.term + 1))).setCell ⟨b, 2, none⟩ (.int .i64 m.id)).setCell ⟨b, 6, none⟩ (.int .i64 1)).drew b a { m with term := m.term + 1, vote := m.id, role := 1 } :=
    (((HA.out.store 1 (.int .i64 (m.term + 1)) (m' := { m with term := m.term + 1 }) rfl rfl rfl rfl).store 2 (.int .i64 m.id) (m' := { m with term := m.term + 1, vote := m.id }) rfl rfl rfl rfl).store 6 (.int .i64 1) (m' := { m with term := m.term + 1, vote := m.id, role := 1 }) rfl rfl rfl rfl).drew
  have S1 := (((hSt0.store 1 (.int .i64 (m.term + 1))).store 2 (.int .i64 m.id)).store 6 (.int .i64 1)).drew
  have HQ1 : (((W0.setCell ⟨b, 1, none⟩ (.int .i64 (m.term + 1))).setCell ⟨b, 2, none⟩ (.int .i64 m.id)).setCell ⟨b, 6, none⟩ (.int .i64 1)).drew.heap[Q]? = some (.cells #[.pointer (some ⟨b, 0, none⟩)] 28) := blk_far (blk_far (blk_far gQ (Ne.symm hbq) _) (Ne.symm hbq) _) (Ne.symm hbq) _
  have HV1 := HM1.votes
  go_wp2_with (refine wpList_clear rfl (.tmp 36) (by rfl) (by rfl) HV1 ?_; intro w2 hv2 hc2; have HM2 := HM1.newVotes hc2 hv2; have S2 := S1.votes hc2; have HQ2 := hc2.keep HQ1 (by simp only [List.mem_singleton]; intro e; exact hnq (e ▸ foot_v b a)); obtain ⟨d0, d1, d2, d3, d4, d5, d6, d7, d8, d9, dlt⟩ := box10 HM2.blk; have q2 := blk_cell HQ2 0; have q2l := blk_lt HQ2)
  clear c0 c1 c2 c3 c4 c5 c6 c7 c8 c9 hlt fr0 fr1 fr2 fr3 fr4 fr5 fr6 fr7 fr8 fr9 q0 qlt hwr HM1 S1 HQ1 HV1 gQ hSt0
  go_still_tail 8, (by kernel_rfl)
  show wpList _ _ _ _ _ w2.drew
  refine wpList_vote rfl (.tmp 40) (.tmp 44) (by rfl) (by rfl) (by rfl) HM2.drew.votes hid1 hid16 (by simp) ?_
  intro w3 hv3 hc3
  have HM3 : MAt w3 b a m.stand := HM2.drew.newVotes hc3 hv3
  have S3 := S2.drew.votes hc3
  have HQ3 := hc3.keep (blk_drawn HQ2) (by simp only [List.mem_singleton]; intro e; exact hnq (e ▸ foot_v b a))
  clear d0 d1 d2 d3 d4 d5 d6 d7 d8 d9 dlt q2 q2l HM2 hv2 hv3 HQ2
  have q3 := blk_cell HQ3 0
  have q3l := blk_lt HQ3
  have HWON := Lib.hid (won_any HM3 HOKS.out)
  have HMH := Lib.hid HM3
  have HQH := Lib.hid HQ3
  cases hw : m.stand.won with
  | true =>
    rw [hw] at HWON
    have HTE : Hid (m.timeout = (m.stand.lead, m.stand.lead.adds)) := by rw [Hid, HTO.out, if_pos hw]
    clear hw HTO
    go_wp2_with (first
      | (go_at_call 25; refine HWON.out.mono ?_; rintro e w4 ⟨rfl, hb4⟩; have HL := Lib.hid (lead_any (HMH.out.below hb4) HOKS.out (by show 1 ≤ m.term + 1; omega)); have q4 := blk_cell (blk_keep hb4 HQH.out) 0; have q4l := blk_lt (blk_keep hb4 HQH.out))
      | (go_at_call 26; refine HL.out.mono ?_; rintro e w5 ⟨a5, B5, A5, c5, sl5, rfl, H5, S5, hB5, hF5, hms5⟩))
    go_ret
    rw [HTE.out]
    exact ⟨a5, B5, A5, c5, sl5, rfl, H5, (S3.below hb4).trans S5, Nat.le_trans (S3.below hb4).chg.size hB5, hF5, hms5⟩
  | false =>
    rw [hw] at HWON
    have HTE : Hid (m.timeout = (m.stand, m.stand.asks)) := by rw [Hid, HTO.out, if_neg (by rw [hw]; decide)]
    clear hw HTO
    go_wp2_with (first
      | (go_at_call 25; refine HWON.out.mono ?_; rintro e w4 ⟨rfl, hb4⟩; have HA4 := Lib.hid (asks_any (HMH.out.below hb4) HOKS.out Q (blk_keep hb4 HQH.out)); have q4 := blk_cell (blk_keep hb4 HQH.out) 0; have q4l := blk_lt (blk_keep hb4 HQH.out))
      | (go_at_call 27; refine HA4.out.mono ?_; rintro e w5 ⟨A5, c5, sl5, rfl, hms5, hb5⟩))
    go_ret
    rw [HTE.out]
    exact ⟨a, w4.heap.size, A5, c5, sl5, rfl, (HMH.out.below hb4).below hb5, (S3.below hb4).below hb5, (S3.below hb4).chg.size, (HMH.out.below hb4).lt, hms5⟩
end
end Go.Proofs.Ytlejbhgginolgaa
