/-
  What the laws of layer 7 say, in plain terms.
-/
import Derived.Test.YtlejbhgginolgaaRaftMath
namespace Go.Proofs.Ytlejbhgginolgaa
open Go.RowKit
set_option linter.unusedVariables false
/-! ### Who alone is the group -/
structure Solo (m : Mb) : Prop where
  ok : MbOk m
  one : m.prog.length = 1
  id : m.id = 1
  role : m.role = 2
  set : m.settled ≤ m.log.length
theorem mostL_one (x : Int) : mostL [x] = x := by
  unfold mostL majN
  simp [sortI]
theorem commit_last {es : List En} (hm : mayL 0 0 es = true) (x term settled : Int) (hx : x = es.length) (hl : es.length ≠ 0) (ht : endT es 0 = term) (hs : settled < es.length) : commitF 0 0 es [x] term settled = es.length := by
  unfold commitF
  rw [fairL_yes hm]
  simp only
  rw [mostL_one, show min (0 + (es.length : Int)) x = es.length by omega]
  have h := commitAt_hit (B := 0) (T := 0) (l := es) (term := term) (settled := settled) (i := es.length) (by omega) hs (by rw [show ((es.length : Int) - 0).toNat = es.length by omega, List.take_length]; exact ht)
  exact h
theorem toAll_solo (f : Int → Ms) : Mb.toAll 1 f 1 = [] := by simp [Mb.toAll]
theorem solo_took {m : Mb} (h : Solo m) (hl : m.log.length < 64) (c : Cm) : Solo (m.took c) ∧ (m.took c).log = m.log ++ [(m.term, c)] ∧ (m.took c).settled = (m.log.length : Int) + 1 ∧ (m.took c).adds = [] ∧ (lastF 0 0 (m.took c).log).1 = (m.log.length : Int) + 1 ∧ (m.took c).term = m.term ∧ (m.took c).vote = m.vote := by
  have ht : 1 ≤ m.term := h.ok.live (by rw [h.role]; decide)
  have hput : m.put c = { m with log := m.log ++ [(m.term, c)] } := if_neg (by omega)
  have hokp := h.ok.put ht c
  have hlen : (m.put c).log.length = m.log.length + 1 := by rw [hput]; simp
  have hlf := hokp.lastF
  have hprog : ((m.put c).mark).prog.map (·.1) = [((m.put c).log.length : Int)] := by
    unfold Mb.mark
    rw [hlf]
    have h1 : (m.put c).prog = m.prog := by rw [hput]
    have h2 : (m.put c).id = 1 := by rw [hput]; exact h.id
    simp only [h1, h2]
    have h3 := h.one
    match hp : m.prog, h3 with
    | [p], _ => rfl
  have hset : (m.took c).settled = ((m.put c).log.length : Int) := by
    show commitF 0 0 (m.put c).log (((m.put c).mark).prog.map (·.1)) (m.put c).term (m.put c).settled = _
    rw [hprog]
    refine commit_last hokp.log _ _ _ rfl (by omega) ?_ ?_
    · rw [hput]; exact endT_snoc _ _ _
    · have := h.set
      have h4 : (m.put c).settled = m.settled := by rw [hput]
      omega
  have hlog : (m.took c).log = m.log ++ [(m.term, c)] := by show (m.put c).log = _; rw [hput]
  have hok := h.ok.took ht c
  have hone : (m.took c).prog.length = 1 := by
    show (((m.put c).prog).set _ _).length = 1
    rw [List.length_set, hput]
    exact h.one
  have hid : (m.took c).id = 1 := by show (m.put c).id = 1; rw [hput]; exact h.id
  refine ⟨⟨hok, hone, hid, by show (m.put c).role = 2; rw [hput]; exact h.role, by rw [hset, hlog, hlen]; simp⟩, hlog, by rw [hset, hlen]; simp, ?_, ?_, by show (m.put c).term = _; rw [hput], by show (m.put c).vote = _; rw [hput]⟩
  · unfold Mb.adds
    rw [hone, hid, toAll_solo]
  · rw [hok.lastF, hlog]
    simp
theorem commit_none {es : List En} (hm : mayL 0 0 es = true) (ms : List Int) (term settled : Int) (ht : endT es 0 < term) (h0 : 0 < term) (hs : 0 ≤ settled) : commitF 0 0 es ms term settled = settled := by
  unfold commitF
  rw [fairL_yes hm]
  simp only
  unfold commitAt
  split
  · rfl
  · have hr := (mayL_true hm).2.2.2.2.2.2
    have key : ∀ k : Nat, commitGo 0 0 es term settled k = settled := by
      intro k
      induction k with
      | zero =>
        unfold commitGo
        rw [if_neg (by omega)]
      | succ k ih =>
        unfold commitGo
        split
        · rw [if_neg ?_]
          · exact ih
          · have : endT (es.take (k + 1)) 0 ≤ endT es 0 := by
              by_cases hn : es.take (k + 1) = []
              · rw [hn, endT_nil]
                by_cases he : es = []
                · rw [he, endT_nil]; exact Int.le_refl _
                · obtain ⟨e, hmem, hee⟩ := endT_mem he 0
                  have := (rising_le hr e hmem).1
                  omega
              · obtain ⟨e, hmem, hee⟩ := endT_mem hn 0
                rw [hee]
                exact (rising_le hr e (List.mem_of_mem_take hmem)).2
            omega
        · rfl
    exact key _
/-- It leads as soon as it times out. -/
theorem solo_lead {t v : Int} {es : List En} (h : newOk 1 ((1 : Nat) : Int) t v 0 0 es = true) (ht : t < 1073741824) : Solo (newMb 1 1 t v es).timeout.1 ∧ (newMb 1 1 t v es).timeout.1.term = t + 1 ∧ (newMb 1 1 t v es).timeout.1.vote = 1 := by
  obtain ⟨_, hok⟩ := newMb_ok h
  have ht0 := (mayV_true hok.ballot).1
  have hs := hok.stand ht
  have hwon : (newMb 1 1 t v es).stand.won = true := by
    unfold Mb.won Mb.stand newMb majN
    simp
  have htime : (newMb 1 1 t v es).timeout.1 = (newMb 1 1 t v es).stand.lead := by
    unfold Mb.timeout
    rw [if_neg (by simp only [newMb]; omega), if_pos hwon]
  rw [htime]
  have hst1 : 1 ≤ (newMb 1 1 t v es).stand.term := by show 1 ≤ t + 1; have : 0 ≤ t := ht0; omega
  have hl := hs.lead hst1
  have hput : ∀ m : Mb, ∀ c, (m.put c).id = m.id ∧ (m.put c).role = m.role ∧ (m.put c).term = m.term ∧ (m.put c).vote = m.vote ∧ (m.put c).prog = m.prog ∧ (m.put c).settled = m.settled := fun m c => by unfold Mb.put; split <;> simp
  obtain ⟨p1, p2, p3, p4, p5, p6⟩ := hput (newMb 1 1 t v es).stand.clear (0, 0, 0, 0, 0, 0)
  have e1 : (newMb 1 1 t v es).stand.lead.id = 1 := p1
  have e2 : (newMb 1 1 t v es).stand.lead.role = 2 := p2
  have e3 : (newMb 1 1 t v es).stand.lead.term = t + 1 := p3
  have e4 : (newMb 1 1 t v es).stand.lead.vote = 1 := p4
  have e5 : (newMb 1 1 t v es).stand.lead.prog.length = 1 := by
    show ((((newMb 1 1 t v es).stand.clear).put (0, 0, 0, 0, 0, 0)).prog.set _ _).length = 1
    rw [List.length_set, p5]
    simp [Mb.clear, Mb.stand, newMb]
  refine ⟨⟨hl, e5, e1, e2, ?_⟩, e3, e4⟩
  show commitF 0 0 (((newMb 1 1 t v es).stand.clear).put (0, 0, 0, 0, 0, 0)).log _ _ _ ≤ ((((newMb 1 1 t v es).stand.clear).put (0, 0, 0, 0, 0, 0)).log.length : Int)
  have hokp := (hs.clear hst1).put hst1 (0, 0, 0, 0, 0, 0)
  rcases commitF_mem hokp.log ((((newMb 1 1 t v es).stand.clear.put (0, 0, 0, 0, 0, 0)).mark).prog.map (·.1)) (((newMb 1 1 t v es).stand.clear.put (0, 0, 0, 0, 0, 0)).mark).term (((newMb 1 1 t v es).stand.clear.put (0, 0, 0, 0, 0, 0)).mark).settled with h1 | h1
  · rw [h1]
    have : (((newMb 1 1 t v es).stand.clear.put (0, 0, 0, 0, 0, 0)).mark).settled = 0 := p6
    rw [this]
    omega
  · exact h1.2
/-! ### What is said to all -/
theorem toAll_mem {id : Int} {f : Int → Ms} {n : Nat} {x : Ms} (h : x ∈ Mb.toAll id f n) : ∃ k : Nat, k < n ∧ (k : Int) + 1 ≠ id ∧ x = f ((k : Int) + 1) := by
  induction n with
  | zero => cases h
  | succ n ih =>
    rw [Mb.toAll] at h
    rcases List.mem_append.1 h with h1 | h1
    · obtain ⟨k, h2, h3⟩ := ih h1
      exact ⟨k, by omega, h3⟩
    · split at h1
      · cases h1
      · rename_i hne
        rw [List.mem_singleton] at h1
        exact ⟨n, by omega, hne, h1⟩
theorem toAll_len (id : Int) (f : Int → Ms) (n : Nat) : (Mb.toAll id f n).length = if 1 ≤ id ∧ id ≤ n then n - 1 else n := by
  induction n with
  | zero => rw [Mb.toAll]; split <;> simp
  | succ n ih =>
    rw [Mb.toAll, List.length_append, ih]
    by_cases h1 : (n : Int) + 1 = id
    · rw [if_pos h1, if_neg (by omega), if_pos (by omega)]
      simp
    · rw [if_neg h1]
      by_cases h2 : 1 ≤ id ∧ id ≤ (n : Int)
      · rw [if_pos h2, if_pos (by omega)]
        simp
        omega
      · rw [if_neg h2, if_neg (by omega)]
        simp
/-- They are told in the order of their numbers. -/
theorem toAll_sorted (id : Int) (f : Int → Ms) (hf : ∀ k, (f k).dst = k) (n : Nat) : (Mb.toAll id f n).Pairwise fun x y => x.dst < y.dst := by
  induction n with
  | zero => exact List.Pairwise.nil
  | succ n ih =>
    rw [Mb.toAll, List.pairwise_append]
    refine ⟨ih, by split <;> simp, fun x hx y hy => ?_⟩
    split at hy
    · cases hy
    · rw [List.mem_singleton] at hy
      obtain ⟨k, h1, _, rfl⟩ := toAll_mem hx
      subst hy
      rw [hf, hf]
      omega
end Go.Proofs.Ytlejbhgginolgaa
