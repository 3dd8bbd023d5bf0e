/-
  A member rises, in plain terms.
-/
import Derived.Test.YtnljdkglncmfaaaGreatBe
namespace Go.Proofs.YtnljdkglncmfaaaGreat
open Go.RowKit
set_option linter.unusedVariables false
/-- What becomes of a member when something happens to it. -/
def Mb.does (m : Mb) (k : Int) (x : Ms) (c : Cm) : Mb := if k = 0 then (m.hear x).1 else if k = 1 then m.timeout.1 else if k = 2 then m.beat.1 else (m.propose c).1
theorem MbOk.does {m : Mb} (h : MbOk m) (k : Int) (x : Ms) (c : Cm) : MbOk (m.does k x c) := by
  unfold Mb.does
  split
  · exact h.hear x
  · split
    · exact h.timeout
    · split
      · exact h
      · exact h.propose c
/-- A member rises: its term does not fall, nor what is settled; its vote stays within a term; a leader's log grows. -/
structure Rises (m m' : Mb) : Prop where
  term : m.term ≤ m'.term
  vote : m'.term = m.term → m.vote ≠ 0 → m'.vote = m.vote
  settled : m.settled ≤ m'.settled
  log : m.role = 2 → m'.role = 2 → m'.term = m.term → m.log.length ≤ m'.log.length ∧ m'.log.take m.log.length = m.log
  id : m'.id = m.id
  many : m'.prog.length = m.prog.length
theorem Rises.refl (m : Mb) : Rises m m := ⟨Int.le_refl _, fun _ _ => rfl, Int.le_refl _, fun _ _ _ => ⟨Nat.le_refl _, List.take_length⟩, rfl, rfl⟩
theorem put_facts (m : Mb) (c : Cm) : (m.put c).id = m.id ∧ (m.put c).role = m.role ∧ (m.put c).term = m.term ∧ (m.put c).vote = m.vote ∧ (m.put c).prog = m.prog ∧ (m.put c).settled = m.settled ∧ (m.log.length ≤ (m.put c).log.length ∧ (m.put c).log.take m.log.length = m.log) := by
  unfold Mb.put
  split
  · simp
  · simp
theorem settle_up {m : Mb} (h : MbOk m) : m.settled ≤ m.settle.settled := by
  show m.settled ≤ commitF 0 0 m.log _ m.term m.settled
  rcases commitF_mem h.log (m.prog.map (·.1)) m.term m.settled with h1 | h1 <;> omega
theorem lead_facts {m : Mb} (h : MbOk m) (ht : 1 ≤ m.term) : m.lead.id = m.id ∧ m.lead.term = m.term ∧ m.lead.vote = m.vote ∧ m.settled ≤ m.lead.settled ∧ m.lead.prog.length = m.prog.length := by
  obtain ⟨p1, p2, p3, p4, p5, p6, _⟩ := put_facts m.clear (0, 0, 0, 0, 0, 0)
  have hk := (((h.clear ht).put ht (0, 0, 0, 0, 0, 0))).mark
  refine ⟨p1, p3, p4, ?_, ?_⟩
  · have h1 := settle_up hk
    have h2 : ((m.clear.put (0, 0, 0, 0, 0, 0)).mark).settled = m.settled := p6
    rw [h2] at h1
    exact h1
  · show ((m.clear.put (0, 0, 0, 0, 0, 0)).prog.set _ _).length = _
    rw [List.length_set, p5]
    simp [Mb.clear]
theorem took_facts {m : Mb} (h : MbOk m) (ht : 1 ≤ m.term) (c : Cm) : Rises m (m.took c) := by
  obtain ⟨p1, p2, p3, p4, p5, p6, p7⟩ := put_facts m c
  have hk := (h.put ht c).mark
  refine ⟨?_, fun _ _ => p4, ?_, fun _ _ _ => p7, p1, ?_⟩
  · show m.term ≤ (m.put c).term
    rw [p3]
    exact Int.le_refl _
  · have h1 := settle_up hk
    have h2 : ((m.put c).mark).settled = m.settled := p6
    rw [h2] at h1
    exact h1
  · show ((m.put c).prog.set _ _).length = _
    rw [List.length_set, p5]
theorem rises_timeout {m : Mb} (h : MbOk m) : Rises m m.timeout.1 := by
  have h1 := mayV_true h.ballot
  unfold Mb.timeout
  split
  · exact .refl m
  · rename_i hn
    have hs := h.stand (by omega)
    split
    · obtain ⟨q1, q2, q3, q4, q5⟩ := lead_facts hs (by show 1 ≤ m.term + 1; omega)
      have e2 : m.stand.lead.term = m.term + 1 := q2
      have e4 : m.settled ≤ m.stand.lead.settled := q4
      exact ⟨by show m.term ≤ m.stand.lead.term; omega, fun e _ => by have : m.stand.lead.term = m.term := e; omega, e4, fun e _ _ => by omega, q1, q5⟩
    · have e2 : m.stand.term = m.term + 1 := rfl
      exact ⟨by show m.term ≤ m.stand.term; omega, fun e _ => by have : m.stand.term = m.term := e; omega, Int.le_refl _, fun e _ _ => by omega, rfl, rfl⟩
theorem rises_propose {m : Mb} (h : MbOk m) (c : Cm) : Rises m (m.propose c).1 := by
  unfold Mb.propose
  split
  · exact .refl m
  · split
    · exact .refl m
    · rename_i h1 _
      exact took_facts h (h.live (by omega)) c
/-- Within a term: nothing of the ballot changes but a vote that was not given, and so on. -/
theorem rises_asked {m : Mb} (h : MbOk m) (x : Ms) (hx : x.term ≤ m.term) : Rises m (m.asked x).1 := by
  have hg := grant_ok h.ballot 0 0 m.log x.frm x.term x.index x.lterm
  refine ⟨hg.2, fun _ hv => ?_, Int.le_refl _, fun _ _ _ => ⟨Nat.le_refl _, List.take_length⟩, rfl, rfl⟩
  show (grantF m.term m.vote 0 0 m.log x.frm x.term x.index x.lterm).2.1 = m.vote
  have hs : seeF m.term m.vote x.term = (m.term, m.vote) := by unfold seeF; rw [if_neg (by omega)]
  unfold grantF
  rw [hs]
  simp only
  split
  · rename_i hc
    rcases hc.2.2.1 with h1 | h1
    · exact (hv h1).elim
    · exact h1.symm
  · rfl
theorem rises_voted {m : Mb} (h : MbOk m) (x : Ms) (hx : 1 ≤ x.frm ∧ x.frm ≤ 16) : Rises m (m.voted x).1 := by
  unfold Mb.voted
  split
  · exact .refl m
  · rename_i hn
    have ht : 1 ≤ m.term := h.live (by omega)
    split
    · obtain ⟨q1, q2, q3, q4, q5⟩ := lead_facts (h.counted x hx) ht
      exact ⟨by show m.term ≤ (m.counted x).lead.term; rw [q2]; exact Int.le_refl _, fun _ _ => q3, q4, fun e _ _ => by omega, q1, q5⟩
    · exact ⟨Int.le_refl _, fun _ _ => rfl, Int.le_refl _, fun _ _ _ => ⟨Nat.le_refl _, List.take_length⟩, rfl, rfl⟩
theorem rises_add {m : Mb} (x : Ms) : Rises m (m.add x).1 := by
  unfold Mb.add
  split
  · exact .refl m
  · split
    · exact .refl m
    · rename_i hr
      split
      · exact ⟨Int.le_refl _, fun _ _ => rfl, Int.le_refl _, fun e _ _ => (hr e).elim, rfl, rfl⟩
      · exact ⟨Int.le_refl _, fun _ _ => rfl, by show m.settled ≤ max m.settled _; omega, fun e _ _ => (hr e).elim, rfl, rfl⟩
theorem rises_added {m : Mb} (h : MbOk m) (x : Ms) : Rises m (m.added x).1 := by
  have hl := h.len64
  have hlf := h.lastF
  have hm : 0 ≤ x.index → x.index ≤ m.log.length → Rises m (m.matched x) := fun h0 h1 => by
    have hk := h.setPr x.frm (max (m.prAt x.frm).1 x.index, max (m.prAt x.frm).1 x.index + 1) (by have := h.prAt x.frm; simp only; omega)
    have h2 := settle_up hk
    exact ⟨Int.le_refl _, fun _ _ => rfl, h2, fun _ _ _ => ⟨Nat.le_refl _, List.take_length⟩, rfl, by show (m.prog.set _ _).length = _; rw [List.length_set]⟩
  unfold Mb.added
  split
  · exact .refl m
  · split
    · exact ⟨Int.le_refl _, fun _ _ => rfl, Int.le_refl _, fun _ _ _ => ⟨Nat.le_refl _, List.take_length⟩, rfl, by show (m.prog.set _ _).length = _; rw [List.length_set]⟩
    · split
      · exact .refl m
      · rename_i h3
        rw [hlf] at h3 ⊢
        simp only at h3 ⊢
        split
        · exact hm (by omega) (by omega)
        · exact hm (by omega) (by omega)
theorem rises_hear {m : Mb} (h : MbOk m) (x : Ms) : Rises m (m.hear x).1 := by
  unfold Mb.hear
  split
  · rename_i hh
    unfold Mb.hears at hh
    rw [decide_eq_true_eq] at hh
    have hs := h.seen x (by omega)
    have hst : x.term ≤ (m.seen x).term := by
      unfold Mb.seen
      split
      · exact Int.le_refl _
      · omega
    have hfr : 1 ≤ x.frm ∧ x.frm ≤ 16 := by have := h.n16; omega
    have hr : Rises (m.seen x) ((m.seen x).acts x).1 := by
      unfold Mb.acts
      split
      · exact rises_asked hs x hst
      · split
        · exact rises_voted hs x hfr
        · split
          · exact rises_add x
          · exact rises_added hs x
    by_cases hlt : m.term < x.term
    · have he : m.seen x = { m with term := x.term, vote := 0, role := 0 } := if_pos hlt
      rw [he] at hr ⊢
      have h1 : x.term ≤ _ := hr.term
      exact ⟨by omega, fun e _ => by omega, hr.settled, fun _ _ e => by omega, hr.id, hr.many⟩
    · have he : m.seen x = m := if_neg hlt
      rw [he] at hr ⊢
      exact hr
  · exact .refl m
theorem rises_does {m : Mb} (h : MbOk m) (k : Int) (x : Ms) (c : Cm) : Rises m (m.does k x c) := by
  unfold Mb.does
  split
  · exact rises_hear h x
  · split
    · exact rises_timeout h
    · split
      · exact .refl m
      · exact rises_propose h c
end Go.Proofs.YtnljdkglncmfaaaGreat
