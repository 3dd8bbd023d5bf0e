/-
  One of a group that keeps one log, in plain terms: what it says and what it is, behind whatever happens to it.
-/
import Derived.Test.YtlejbhgginolgaaQuorumC
import Derived.Test.YtlejbhgginolgaaVoteB
import Derived.Test.YtlejbhgginolgaaEntriesO
namespace Go.Proofs.Ytlejbhgginolgaa
open Go.RowKit
set_option linter.unusedVariables false
/-- One of a group: its number, its ballot, its log, its role, what is settled, who votes for it, and what it knows of each. -/
structure Mb where
  id : Int
  term : Int
  vote : Int
  log : List En
  role : Int
  settled : Int
  votes : List Int
  prog : List (Int × Int)
/-- A message. -/
structure Ms where
  kind : Int
  frm : Int
  dst : Int
  term : Int
  index : Int
  lterm : Int
  commit : Int
  yes : Bool
  ents : List En
namespace Mb
def say (m : Mb) (kind k : Int) : Ms := ⟨kind, m.id, k, m.term, 0, 0, 0, false, []⟩
def prAt (m : Mb) (k : Int) : Int × Int := m.prog.getD (k - 1).toNat (0, 0)
/-- What a member is to add. -/
def addn (m : Mb) (k : Int) : Ms := ⟨2, m.id, k, m.term, (m.prAt k).2 - 1, (termF 0 0 m.log ((m.prAt k).2 - 1)).1, m.settled, false, fromF 0 0 m.log (m.prAt k).2 8⟩
/-- What it says to who is to vote. -/
def ask (m : Mb) (k : Int) : Ms := ⟨0, m.id, k, m.term, (lastF 0 0 m.log).1, (lastF 0 0 m.log).2, 0, false, []⟩
/-- What is said to each of the others, from the first so many. -/
def toAll (id : Int) (f : Int → Ms) : Nat → List Ms
  | 0 => []
  | k + 1 => toAll id f k ++ if ((k : Int) + 1) = id then [] else [f ((k : Int) + 1)]
def adds (m : Mb) : List Ms := toAll m.id m.addn m.prog.length
def asks (m : Mb) : List Ms := toAll m.id m.ask m.prog.length
def settle (m : Mb) : Mb := { m with settled := commitF 0 0 m.log (m.prog.map (·.1)) m.term m.settled }
def put (m : Mb) (c : Cm) : Mb := if 64 ≤ m.log.length then m else { m with log := m.log ++ [(m.term, c)] }
/-- Its own last entry is noted. -/
def mark (m : Mb) : Mb := { m with prog := m.prog.set (m.id - 1).toNat ((lastF 0 0 m.log).1, (m.prAt m.id).2) }
/-- What is known of each is as it is when one begins to lead. -/
def clear (m : Mb) : Mb := { m with role := 2, prog := m.prog.map fun _ => (0, (lastF 0 0 m.log).1 + 1) }
def lead (m : Mb) : Mb := ((m.clear.put (0, 0, 0, 0, 0, 0)).mark).settle
def won (m : Mb) : Bool := decide (majN m.prog.length ≤ m.votes.length)
/-- It votes for itself, in the next term. -/
def stand (m : Mb) : Mb := { m with term := m.term + 1, vote := m.id, role := 1, votes := [m.id] }
def timeout (m : Mb) : Mb × List Ms :=
  if m.role = 2 ∨ 1073741824 ≤ m.term then (m, []) else if m.stand.won = true then (m.stand.lead, m.stand.lead.adds) else (m.stand, m.stand.asks)
def beat (m : Mb) : Mb × List Ms := (m, if m.role = 2 then m.adds else [])
def took (m : Mb) (c : Cm) : Mb := ((m.put c).mark).settle
def propose (m : Mb) (c : Cm) : Mb × Int × List Ms × Int :=
  if m.role ≠ 2 then (m, 0, [], 8) else if 64 ≤ m.log.length then (m, 0, [], 7) else (m.took c, (lastF 0 0 (m.took c).log).1, (m.took c).adds, 0)
def asked (m : Mb) (x : Ms) : Mb × List Ms :=
  ({ m with term := (grantF m.term m.vote 0 0 m.log x.frm x.term x.index x.lterm).1, vote := (grantF m.term m.vote 0 0 m.log x.frm x.term x.index x.lterm).2.1 },
    [{ m.say 1 x.frm with yes := (grantF m.term m.vote 0 0 m.log x.frm x.term x.index x.lterm).2.2 }])
def counted (m : Mb) (x : Ms) : Mb := { m with votes := if x.frm ∈ m.votes then m.votes else m.votes ++ [x.frm] }
def voted (m : Mb) (x : Ms) : Mb × List Ms :=
  if m.role ≠ 1 ∨ x.term ≠ m.term ∨ x.yes = false then (m, []) else if (m.counted x).won = true then ((m.counted x).lead, (m.counted x).lead.adds) else (m.counted x, [])
/-- Is one of a term above a message's among its entries? -/
def oddF (x : Ms) : Bool := x.ents.any fun e => decide (x.term < e.1)
def follow (m : Mb) : Mb := { m with role := 0 }
def added' (m : Mb) (l : List En) (x : Ms) : Mb := { m with role := 0, log := l, settled := max m.settled (min x.commit (x.index + x.ents.length)) }
def add (m : Mb) (x : Ms) : Mb × List Ms :=
  if x.term < m.term then (m, [m.say 3 x.frm]) else if m.role = 2 then (m, []) else
    if (addF 0 0 m.log x.index x.lterm x.ents).2.2.2 ≠ 0 ∨ oddF x = true then (m.follow, [{ m.say 3 x.frm with index := (lastF 0 0 m.log).1 }])
    else (m.added' (addF 0 0 m.log x.index x.lterm x.ents).2.2.1 x, [{ m.say 3 x.frm with yes := true, index := x.index + x.ents.length }])
def setPr (m : Mb) (k : Int) (p : Int × Int) : Mb := { m with prog := m.prog.set (k - 1).toNat p }
/-- A member has not added: what is to be added begins further ahead. -/
def back (m : Mb) (x : Ms) : Mb := m.setPr x.frm ((m.prAt x.frm).1, max 1 (min ((m.prAt x.frm).2 - 2) x.index + 1))
/-- A member has added. -/
def matched (m : Mb) (x : Ms) : Mb := (m.setPr x.frm (max (m.prAt x.frm).1 x.index, max (m.prAt x.frm).1 x.index + 1)).settle
def added (m : Mb) (x : Ms) : Mb × List Ms :=
  if m.role ≠ 2 ∨ x.term ≠ m.term then (m, []) else
    if x.yes = false then (m.back x, [(m.back x).addn x.frm]) else
      if x.index < 0 ∨ (lastF 0 0 m.log).1 < x.index then (m, []) else
        if (lastF 0 0 m.log).1 < max (m.prAt x.frm).1 x.index + 1 then (m.matched x, []) else (m.matched x, [(m.matched x).addn x.frm])
/-- Is a message for it, from another one, of a term and a kind that there are? -/
def hears (m : Mb) (x : Ms) : Bool := decide (x.dst = m.id ∧ 1 ≤ x.frm ∧ x.frm ≤ m.prog.length ∧ x.frm ≠ m.id ∧ 1 ≤ x.term ∧ x.term ≤ 1073741824 ∧ 0 ≤ x.kind ∧ x.kind ≤ 3)
def seen (m : Mb) (x : Ms) : Mb := if m.term < x.term then { m with term := x.term, vote := 0, role := 0 } else m
def acts (m : Mb) (x : Ms) : Mb × List Ms := if x.kind = 0 then m.asked x else if x.kind = 1 then m.voted x else if x.kind = 2 then m.add x else m.added x
def hear (m : Mb) (x : Ms) : Mb × List Ms := if m.hears x = true then (m.seen x).acts x else (m, [])
end Mb
/-- One that knows nothing but a ballot and a log. -/
def newMb (id : Int) (many : Nat) (t v : Int) (es : List En) : Mb := ⟨id, t, v, es, 0, 0, [], List.replicate many (0, 0)⟩
/-- Whether there is one. -/
def newOk (id many t v b bt : Int) (es : List En) : Bool := decide (1 ≤ many ∧ many ≤ 16 ∧ 1 ≤ id ∧ id ≤ many ∧ mayV t v = true ∧ mayL b bt es = true ∧ b = 0 ∧ (lastF b bt es).2 ≤ t)
/-- What holds of each that there is. -/
structure MbOk (m : Mb) : Prop where
  n1 : 1 ≤ m.prog.length
  n16 : m.prog.length ≤ 16
  id1 : 1 ≤ m.id
  idn : m.id ≤ m.prog.length
  ballot : mayV m.term m.vote = true
  log : mayL 0 0 m.log = true
  last : endT m.log 0 ≤ m.term
  set0 : 0 ≤ m.settled
  set64 : m.settled ≤ 64
  votes : ∀ v ∈ m.votes, 1 ≤ v ∧ v ≤ 16
  nodup : m.votes.Nodup
  role : 0 ≤ m.role ∧ m.role ≤ 2
  pr : ∀ p ∈ m.prog, 0 ≤ p.1 ∧ p.1 ≤ 64 ∧ 0 ≤ p.2 ∧ p.2 ≤ 65
  live : m.role ≠ 0 → 1 ≤ m.term
theorem mayV_true {t v : Int} (h : mayV t v = true) : 0 ≤ t ∧ t ≤ 1073741824 ∧ (v = 0 ∨ (1 ≤ v ∧ v ≤ 16)) := by
  unfold mayV memberB at h
  simp only [Bool.and_eq_true, Bool.or_eq_true, decide_eq_true_eq, beq_iff_eq] at h
  omega
theorem mayV_mk {t v : Int} (h0 : 0 ≤ t) (h1 : t ≤ 1073741824) (h2 : v = 0 ∨ (1 ≤ v ∧ v ≤ 16)) : mayV t v = true := by
  unfold mayV memberB
  simp only [Bool.and_eq_true, Bool.or_eq_true, decide_eq_true_eq, beq_iff_eq]
  omega
theorem lastF_may {es : List En} (h : mayL 0 0 es = true) : lastF 0 0 es = ((es.length : Int), endT es 0) := by
  unfold lastF
  rw [fairL_yes h]
  simp
namespace MbOk
variable {m : Mb}
theorem lastF (h : MbOk m) : lastF 0 0 m.log = ((m.log.length : Int), endT m.log 0) := lastF_may h.log
theorem len64 (h : MbOk m) : m.log.length ≤ 64 := (mayL_true h.log).2.2.2.2.2.1
theorem rise (h : MbOk m) : rising m.log 0 = true := (mayL_true h.log).2.2.2.2.2.2
theorem prAt (h : MbOk m) (k : Int) : 0 ≤ (m.prAt k).1 ∧ (m.prAt k).1 ≤ 64 ∧ 0 ≤ (m.prAt k).2 ∧ (m.prAt k).2 ≤ 65 := by
  unfold Mb.prAt
  rw [List.getD_eq_getElem?_getD]
  cases hk : m.prog[(k - 1).toNat]? with
  | none => simp
  | some p => exact h.pr p (List.mem_of_getElem? hk)
end MbOk
theorem commitGo_mem (T : Int) (l : List En) (term settled : Int) (k : Nat) : commitGo 0 T l term settled k = settled ∨ (settled < commitGo 0 T l term settled k ∧ commitGo 0 T l term settled k ≤ k) := by
  induction k with
  | zero => unfold commitGo; split <;> omega
  | succ k ih =>
    unfold commitGo
    split
    · split
      · right; omega
      · rcases ih with h | h
        · exact .inl h
        · right; omega
    · exact .inl rfl
theorem commitF_mem {es : List En} (hm : mayL 0 0 es = true) (ms : List Int) (term settled : Int) : commitF 0 0 es ms term settled = settled ∨ (settled < commitF 0 0 es ms term settled ∧ commitF 0 0 es ms term settled ≤ es.length) := by
  unfold commitF
  rw [fairL_yes hm]
  simp only
  unfold commitAt
  split
  · exact .inl rfl
  · rcases commitGo_mem 0 es term settled (min (0 + (es.length : Int)) (mostL ms) - 0).toNat with h | h
    · exact .inl h
    · right; omega
theorem set_mem {α : Type} {l : List α} {k : Nat} {p q : α} (h : q ∈ l.set k p) : q ∈ l ∨ q = p := List.mem_or_eq_of_mem_set h
namespace MbOk
variable {m : Mb}
theorem setPr (h : MbOk m) (k : Int) (p : Int × Int) (hp : 0 ≤ p.1 ∧ p.1 ≤ 64 ∧ 0 ≤ p.2 ∧ p.2 ≤ 65) : MbOk (m.setPr k p) :=
  ⟨by simpa [Mb.setPr] using h.n1, by simpa [Mb.setPr] using h.n16, h.id1, by simpa [Mb.setPr] using h.idn, h.ballot, h.log, h.last, h.set0, h.set64, h.votes, h.nodup, h.role, fun q hq => by
    rcases set_mem hq with h1 | h1
    · exact h.pr q h1
    · subst h1; exact hp, h.live⟩
theorem settle (h : MbOk m) : MbOk m.settle := by
  have hl := h.len64
  refine ⟨h.n1, h.n16, h.id1, h.idn, h.ballot, h.log, h.last, ?_, ?_, h.votes, h.nodup, h.role, h.pr, h.live⟩
  · show 0 ≤ commitF 0 0 m.log _ m.term m.settled
    have h0 := h.set0
    rcases commitF_mem h.log (m.prog.map (·.1)) m.term m.settled with h1 | h1 <;> omega
  · show commitF 0 0 m.log _ m.term m.settled ≤ 64
    have h0 := h.set64
    rcases commitF_mem h.log (m.prog.map (·.1)) m.term m.settled with h1 | h1 <;> omega
theorem mark (h : MbOk m) : MbOk m.mark := by
  have h1 := h.prAt m.id
  have h2 := h.len64
  refine h.setPr m.id _ ?_
  rw [h.lastF]
  simp only
  omega
theorem mayL_put (h : MbOk m) (hl : m.log.length < 64) (ht : 1 ≤ m.term) (c : Cm) : mayL 0 0 (m.log ++ [(m.term, c)]) = true := by
  have h1 := (mayV_true h.ballot)
  refine mayL_mk (by omega) (by omega) (by omega) (by omega) (fun _ => rfl) (by simp; omega) ?_
  rw [rising_append, h.rise, Bool.true_and]
  simp only [rising, Bool.and_true, decide_eq_true_eq]
  have := h.last
  omega
theorem put (h : MbOk m) (ht : 1 ≤ m.term) (c : Cm) : MbOk (m.put c) := by
  unfold Mb.put
  by_cases hl : 64 ≤ m.log.length
  · rw [if_pos hl]; exact h
  · rw [if_neg hl]
    exact ⟨h.n1, h.n16, h.id1, h.idn, h.ballot, h.mayL_put (by omega) ht c, by rw [endT_snoc]; exact Int.le_refl _, h.set0, h.set64, h.votes, h.nodup, h.role, h.pr, h.live⟩
theorem clear (h : MbOk m) (ht : 1 ≤ m.term) : MbOk m.clear := by
  have h2 := h.len64
  refine ⟨by simpa [Mb.clear] using h.n1, by simpa [Mb.clear] using h.n16, h.id1, by simpa [Mb.clear] using h.idn, h.ballot, h.log, h.last, h.set0, h.set64, h.votes, h.nodup, by simp [Mb.clear], fun p hp => ?_, fun _ => ht⟩
  simp only [Mb.clear, List.mem_map] at hp
  obtain ⟨_, _, rfl⟩ := hp
  rw [h.lastF]
  simp only
  omega
theorem lead (h : MbOk m) (ht : 1 ≤ m.term) : MbOk m.lead := ((h.clear ht).put ht _).mark.settle
theorem stand (h : MbOk m) (ht : m.term < 1073741824) : MbOk m.stand := by
  have h1 := mayV_true h.ballot
  have h2 := h.id1
  have h3 := h.idn
  have h4 := h.n16
  have h5 := h.last
  exact ⟨h.n1, h.n16, h.id1, h.idn, mayV_mk (by show 0 ≤ m.term + 1; omega) (by show m.term + 1 ≤ _; omega) (by show m.id = 0 ∨ _; right; show 1 ≤ m.id ∧ m.id ≤ 16; omega), h.log, by show endT m.log 0 ≤ m.term + 1; omega, h.set0, h.set64, fun v hv => by
    simp only [Mb.stand, List.mem_singleton] at hv
    omega, by simp [Mb.stand], by simp [Mb.stand], h.pr, fun _ => by show 1 ≤ m.term + 1; omega⟩
theorem timeout (h : MbOk m) : MbOk m.timeout.1 := by
  have h1 := mayV_true h.ballot
  unfold Mb.timeout
  split
  · exact h
  · rename_i hn
    have hs := h.stand (by omega)
    have ht : 1 ≤ m.stand.term := by show 1 ≤ m.term + 1; omega
    split
    · exact hs.lead ht
    · exact hs
theorem took (h : MbOk m) (ht : 1 ≤ m.term) (c : Cm) : MbOk (m.took c) := (h.put ht c).mark.settle
theorem propose (h : MbOk m) (c : Cm) : MbOk (m.propose c).1 := by
  unfold Mb.propose
  split
  · exact h
  · split
    · exact h
    · rename_i h1 _
      exact h.took (h.live (by omega)) c
end MbOk
theorem seeF_same {t v : Int} : seeF t v t = (t, v) := by unfold seeF; rw [if_neg (by omega)]
theorem seeF_ok {t v : Int} (h : mayV t v = true) (T : Int) : mayV (seeF t v T).1 (seeF t v T).2 = true ∧ t ≤ (seeF t v T).1 := by
  have h1 := mayV_true h
  unfold seeF
  split
  · exact ⟨mayV_mk (by simp only; omega) (by simp only; omega) (.inl rfl), by simp only; omega⟩
  · exact ⟨h, Int.le_refl _⟩
theorem grant_ok {t v : Int} (h : mayV t v = true) (b bt : Int) (es : List En) (f T I LT : Int) : mayV (grantF t v b bt es f T I LT).1 (grantF t v b bt es f T I LT).2.1 = true ∧ t ≤ (grantF t v b bt es f T I LT).1 := by
  obtain ⟨h1, h2⟩ := seeF_ok h T
  have h3 := mayV_true h1
  unfold grantF
  split
  · rename_i hc
    have hm := hc.2.1
    unfold memberB at hm
    rw [Bool.and_eq_true, decide_eq_true_eq, decide_eq_true_eq] at hm
    exact ⟨mayV_mk h3.1 h3.2.1 (.inr hm), h2⟩
  · exact ⟨h1, h2⟩
theorem addF_ok {es : List En} {i T : Int} {more : List En} (h : (addF 0 0 es i T more).2.2.2 = 0) : mayL 0 0 es = true ∧ rising more T = true ∧ 0 ≤ i ∧ i ≤ es.length ∧ (termL 0 0 es i).1 = T ∧ (mergeL es i.toNat more).length ≤ 64 ∧ addF 0 0 es i T more = (0, 0, mergeL es i.toNat more, 0) := by
  unfold addF at h ⊢
  split at h
  · rename_i hc
    rw [if_pos hc]
    split at h
    · cases h
    · rename_i h1
      rw [if_neg h1]
      split at h
      · cases h
      · rename_i h2
        rw [if_neg h2]
        split at h
        · rename_i h3
          rw [if_pos h3]
          split at h
          · cases h
          · rename_i h4
            rw [if_neg h4]
            rw [Int.sub_zero] at h4 ⊢
            exact ⟨hc.1, hc.2, by omega, by omega, h3, by omega, rfl⟩
        · cases h
  · cases h
theorem endT_mem {es : List En} (h : es ≠ []) (f : Int) : ∃ e ∈ es, endT es f = e.1 := by
  unfold endT
  cases hl : es.getLast? with
  | none => rw [List.getLast?_eq_none_iff] at hl; exact (h hl).elim
  | some e => exact ⟨e, List.mem_of_getLast? hl, rfl⟩
theorem mergeL_mem {es ms : List En} {k : Nat} : ∀ {x : En}, x ∈ mergeL es k ms → x ∈ es ∨ x ∈ ms := by
  induction ms generalizing k with
  | nil => intro x hx; exact .inl hx
  | cons m ms ih =>
    intro x hx
    unfold mergeL at hx
    split at hx
    · rcases ih hx with h | h
      · exact .inl h
      · exact .inr (List.mem_cons_of_mem _ h)
    · rcases List.mem_append.1 hx with h | h
      · exact .inl (List.mem_of_mem_take h)
      · exact .inr h
theorem rising_le {es : List En} {f : Int} (h : rising es f = true) : ∀ e ∈ es, f ≤ e.1 ∧ e.1 ≤ endT es f := by
  induction es generalizing f with
  | nil => intro e he; cases he
  | cons x xs ih =>
    rw [rising, Bool.and_eq_true, decide_eq_true_eq] at h
    intro e he
    rw [endT_cons]
    have hx : x.1 ≤ endT xs x.1 := by
      cases xs with
      | nil => exact Int.le_refl _
      | cons y ys =>
        obtain ⟨z, hz, hz2⟩ := endT_mem (List.cons_ne_nil y ys) x.1
        have := ih h.2 z hz
        omega
    rcases List.mem_cons.1 he with rfl | he
    · omega
    · have := ih h.2 e he
      omega
namespace MbOk
variable {m : Mb}
theorem asked (h : MbOk m) (x : Ms) : MbOk (m.asked x).1 := by
  have hg := grant_ok h.ballot 0 0 m.log x.frm x.term x.index x.lterm
  have := h.last
  have hl := h.live
  exact ⟨h.n1, h.n16, h.id1, h.idn, hg.1, h.log, by show endT m.log 0 ≤ (grantF m.term m.vote 0 0 m.log x.frm x.term x.index x.lterm).1; omega, h.set0, h.set64, h.votes, h.nodup, h.role, h.pr, fun hr => by
    have := hl hr
    show 1 ≤ (grantF m.term m.vote 0 0 m.log x.frm x.term x.index x.lterm).1
    omega⟩
theorem counted (h : MbOk m) (x : Ms) (hx : 1 ≤ x.frm ∧ x.frm ≤ 16) : MbOk (m.counted x) := by
  refine ⟨h.n1, h.n16, h.id1, h.idn, h.ballot, h.log, h.last, h.set0, h.set64, ?_, ?_, h.role, h.pr, h.live⟩
  · show ∀ v ∈ (if x.frm ∈ m.votes then m.votes else m.votes ++ [x.frm]), _
    split
    · exact h.votes
    · intro v hv
      rcases List.mem_append.1 hv with hv | hv
      · exact h.votes v hv
      · rw [List.mem_singleton] at hv; omega
  · show (if x.frm ∈ m.votes then m.votes else m.votes ++ [x.frm]).Nodup
    split
    · exact h.nodup
    · rename_i hn
      rw [List.nodup_append]
      exact ⟨h.nodup, by simp, fun a ha b hb e => by rw [List.mem_singleton] at hb; subst hb; subst e; exact hn ha⟩
theorem voted (h : MbOk m) (x : Ms) (hx : 1 ≤ x.frm ∧ x.frm ≤ 16) : MbOk (m.voted x).1 := by
  unfold Mb.voted
  split
  · exact h
  · rename_i hn
    have ht : 1 ≤ (m.counted x).term := h.live (by omega)
    split
    · exact (h.counted x hx).lead ht
    · exact h.counted x hx
theorem follow (h : MbOk m) : MbOk m.follow := ⟨h.n1, h.n16, h.id1, h.idn, h.ballot, h.log, h.last, h.set0, h.set64, h.votes, h.nodup, by simp [Mb.follow], h.pr, fun hr => (hr rfl).elim⟩
theorem add (h : MbOk m) (x : Ms) (hx : x.term ≤ m.term) : MbOk (m.add x).1 := by
  unfold Mb.add
  split
  · exact h
  · split
    · exact h
    · split
      · exact h.follow
      · rename_i h1 h2 h3
        have he : (addF 0 0 m.log x.index x.lterm x.ents).2.2.2 = 0 := by omega
        obtain ⟨a1, a2, a3, a4, a5, a6, a7⟩ := addF_ok he
        have hodd : ∀ e ∈ x.ents, e.1 ≤ x.term := fun e hmem => by
          have h4 : ¬ Mb.oddF x = true := fun hc => h3 (.inr hc)
          unfold Mb.oddF at h4
          rw [List.any_eq_true] at h4
          refine Int.not_lt.1 fun hlt => h4 ⟨e, hmem, decide_eq_true hlt⟩
        rw [a7]
        simp only
        have f := mergeL_facts m.log x.ents x.index.toNat (by omega)
        have hr : rising (mergeL m.log x.index.toNat x.ents) 0 = true := f.2.2.2.1 0 h.rise (by
          rw [termL_at (b := 0) (t := 0) (es := m.log) x.index.toNat (by omega) (by omega)] at a5
          simp only at a5
          rw [a5]; exact a2)
        refine ⟨h.n1, h.n16, h.id1, h.idn, h.ballot, mayL_mk (by omega) (by omega) (by omega) (by omega) (fun _ => rfl) a6 hr, ?_, ?_, ?_, h.votes, h.nodup, by simp [Mb.added'], h.pr, fun hr => (hr rfl).elim⟩
        · show endT (mergeL m.log x.index.toNat x.ents) 0 ≤ m.term
          by_cases hn : mergeL m.log x.index.toNat x.ents = []
          · rw [hn]; have := (mayV_true h.ballot).1; simpa [endT_nil] using this
          · obtain ⟨e, hmem, he⟩ := endT_mem hn 0
            rw [he]
            rcases mergeL_mem hmem with h5 | h5
            · have := (rising_le h.rise e h5).2
              have := h.last
              omega
            · have := hodd e h5
              omega
        · show 0 ≤ max m.settled (min x.commit (x.index + x.ents.length))
          have := h.set0
          omega
        · show max m.settled (min x.commit (x.index + x.ents.length)) ≤ 64
          have := h.set64
          have := f.1
          omega
theorem back (h : MbOk m) (x : Ms) : MbOk (m.back x) := h.setPr _ _ (by have := h.prAt x.frm; simp only; omega)
theorem matched (h : MbOk m) (x : Ms) (hx : 0 ≤ x.index ∧ x.index ≤ 64) : MbOk (m.matched x) := (h.setPr _ _ (by have := h.prAt x.frm; simp only; omega)).settle
theorem added (h : MbOk m) (x : Ms) : MbOk (m.added x).1 := by
  have hl := h.len64
  have hlf := h.lastF
  unfold Mb.added
  split
  · exact h
  · split
    · exact h.back x
    · split
      · exact h
      · rename_i h3
        rw [hlf] at h3 ⊢
        simp only at h3 ⊢
        split
        · exact h.matched x (by omega)
        · exact h.matched x (by omega)
theorem seen (h : MbOk m) (x : Ms) (hx : x.term ≤ 1073741824) : MbOk (m.seen x) := by
  unfold Mb.seen
  split
  · have h1 := mayV_true h.ballot
    have h5 := h.last
    exact ⟨h.n1, h.n16, h.id1, h.idn, mayV_mk (by simp only; omega) (by simp only; omega) (.inl rfl), h.log, by simp only; omega, h.set0, h.set64, h.votes, h.nodup, by simp, h.pr, fun hr => (hr rfl).elim⟩
  · exact h
theorem hear (h : MbOk m) (x : Ms) : MbOk (m.hear x).1 := by
  unfold Mb.hear
  split
  · rename_i hh
    unfold Mb.hears at hh
    rw [decide_eq_true_eq] at hh
    have hs := h.seen x (by omega)
    have hst : x.term ≤ (m.seen x).term := by
      unfold Mb.seen
      split
      · exact Int.le_refl _
      · omega
    have hfr : 1 ≤ x.frm ∧ x.frm ≤ 16 := by have := h.n16; omega
    unfold Mb.acts
    split
    · exact hs.asked x
    · split
      · exact hs.voted x hfr
      · split
        · exact hs.add x hst
        · exact hs.added x
  · exact h
end MbOk
theorem newMb_ok {id : Int} {many : Nat} {t v b bt : Int} {es : List En} (h : newOk id many t v b bt es = true) : bt = 0 ∧ MbOk (newMb id many t v es) := by
  unfold newOk at h
  rw [decide_eq_true_eq] at h
  obtain ⟨h1, h2, h3, h4, h5, h6, rfl, h8⟩ := h
  have hbt : bt = 0 := (mayL_true h6).2.2.2.2.1 rfl
  subst hbt
  rw [lastF_may h6] at h8
  have hr : List.length (newMb id many t v es).prog = many := by simp [newMb]
  refine ⟨rfl, { n1 := by omega, n16 := by omega, id1 := h3, idn := by rw [hr]; exact h4, ballot := h5, log := h6, last := h8, set0 := Int.le_refl _, set64 := (by decide : (0 : Int) ≤ 64), votes := (fun v hv => by cases hv), nodup := List.nodup_nil, role := (by decide : (0 : Int) ≤ 0 ∧ (0 : Int) ≤ 2), pr := fun p hp => ?_, live := fun hr => (hr rfl).elim }⟩
  simp only [newMb] at hp
  have := List.eq_of_mem_replicate hp
  subst this
  simp
end Go.Proofs.Ytlejbhgginolgaa
