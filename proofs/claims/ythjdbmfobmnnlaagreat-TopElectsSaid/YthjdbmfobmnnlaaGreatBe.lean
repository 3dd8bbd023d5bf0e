/-
  Be: several texts in one.
-/
import Derived.Test.YthjdbmfobmnnlaaGreatBx
import Derived.Test.YthjdbmfobmnnlaaGreatBd
import Derived.Test.YthjdbmfobmnnlaaGreatEntriesO
import Derived.Test.YthjdbmfobmnnlaaGreatBa
import Derived.Maps.OwnSet
import Derived.StillTailTactics
import Derived.Deep.RegionLaw
/-
  One of a group that keeps one log, in plain terms: what it says and what it is, behind whatever happens to it.
-/
namespace Go.Proofs.YthjdbmfobmnnlaaGreat
open Go.RowKit
set_option linter.unusedVariables false
/-- One of a group: its number, its ballot, its log, its role, what is settled, who votes for it, and what it knows of each. -/
structure Mb where
  id : Int
  term : Int
  vote : Int
  log : List En
  role : Int
  settled : Int
  votes : List Int
  prog : List (Int × Int)
/-- A message. -/
structure Ms where
  kind : Int
  frm : Int
  dst : Int
  term : Int
  index : Int
  lterm : Int
  commit : Int
  yes : Bool
  ents : List En
namespace Mb
def say (m : Mb) (kind k : Int) : Ms := ⟨kind, m.id, k, m.term, 0, 0, 0, false, []⟩
def prAt (m : Mb) (k : Int) : Int × Int := m.prog.getD (k - 1).toNat (0, 0)
/-- What a member is to add. -/
def addn (m : Mb) (k : Int) : Ms := ⟨2, m.id, k, m.term, (m.prAt k).2 - 1, (termF 0 0 m.log ((m.prAt k).2 - 1)).1, m.settled, false, fromF 0 0 m.log (m.prAt k).2 8⟩
/-- What it says to who is to vote. -/
def ask (m : Mb) (k : Int) : Ms := ⟨0, m.id, k, m.term, (lastF 0 0 m.log).1, (lastF 0 0 m.log).2, 0, false, []⟩
/-- What is said to each of the others, from the first so many. -/
def toAll (id : Int) (f : Int → Ms) : Nat → List Ms
  | 0 => []
  | k + 1 => toAll id f k ++ if ((k : Int) + 1) = id then [] else [f ((k : Int) + 1)]
def adds (m : Mb) : List Ms := toAll m.id m.addn m.prog.length
def asks (m : Mb) : List Ms := toAll m.id m.ask m.prog.length
def settle (m : Mb) : Mb := { m with settled := commitF 0 0 m.log (m.prog.map (·.1)) m.term m.settled }
def put (m : Mb) (c : Cm) : Mb := if 64 ≤ m.log.length then m else { m with log := m.log ++ [(m.term, c)] }
/-- Its own last entry is noted. -/
def mark (m : Mb) : Mb := { m with prog := m.prog.set (m.id - 1).toNat ((lastF 0 0 m.log).1, (m.prAt m.id).2) }
/-- What is known of each is as it is when one begins to lead. -/
def clear (m : Mb) : Mb := { m with role := 2, prog := m.prog.map fun _ => (0, (lastF 0 0 m.log).1 + 1) }
def lead (m : Mb) : Mb := ((m.clear.put (0, 0, 0, 0, 0, 0)).mark).settle
def won (m : Mb) : Bool := decide (majN m.prog.length ≤ m.votes.length)
/-- It votes for itself, in the next term. -/
def stand (m : Mb) : Mb := { m with term := m.term + 1, vote := m.id, role := 1, votes := [m.id] }
def timeout (m : Mb) : Mb × List Ms :=
  if m.role = 2 ∨ 1073741824 ≤ m.term then (m, []) else if m.stand.won = true then (m.stand.lead, m.stand.lead.adds) else (m.stand, m.stand.asks)
def beat (m : Mb) : Mb × List Ms := (m, if m.role = 2 then m.adds else [])
def took (m : Mb) (c : Cm) : Mb := ((m.put c).mark).settle
def propose (m : Mb) (c : Cm) : Mb × Int × List Ms × Int :=
  if m.role ≠ 2 then (m, 0, [], 8) else if 64 ≤ m.log.length then (m, 0, [], 7) else (m.took c, (lastF 0 0 (m.took c).log).1, (m.took c).adds, 0)
def asked (m : Mb) (x : Ms) : Mb × List Ms :=
  ({ m with term := (grantF m.term m.vote 0 0 m.log x.frm x.term x.index x.lterm).1, vote := (grantF m.term m.vote 0 0 m.log x.frm x.term x.index x.lterm).2.1 },
    [{ m.say 1 x.frm with yes := (grantF m.term m.vote 0 0 m.log x.frm x.term x.index x.lterm).2.2 }])
def counted (m : Mb) (x : Ms) : Mb := { m with votes := if x.frm ∈ m.votes then m.votes else m.votes ++ [x.frm] }
def voted (m : Mb) (x : Ms) : Mb × List Ms :=
  if m.role ≠ 1 ∨ x.term ≠ m.term ∨ x.yes = false then (m, []) else if (m.counted x).won = true then ((m.counted x).lead, (m.counted x).lead.adds) else (m.counted x, [])
/-- Is one of a term above a message's among its entries? -/
def oddF (x : Ms) : Bool := x.ents.any fun e => decide (x.term < e.1)
def follow (m : Mb) : Mb := { m with role := 0 }
def added' (m : Mb) (l : List En) (x : Ms) : Mb := { m with role := 0, log := l, settled := max m.settled (min x.commit (x.index + x.ents.length)) }
def add (m : Mb) (x : Ms) : Mb × List Ms :=
  if x.term < m.term then (m, [m.say 3 x.frm]) else if m.role = 2 then (m, []) else
    if (addF 0 0 m.log x.index x.lterm x.ents).2.2.2 ≠ 0 ∨ oddF x = true then (m.follow, [{ m.say 3 x.frm with index := (lastF 0 0 m.log).1 }])
    else (m.added' (addF 0 0 m.log x.index x.lterm x.ents).2.2.1 x, [{ m.say 3 x.frm with yes := true, index := x.index + x.ents.length }])
def setPr (m : Mb) (k : Int) (p : Int × Int) : Mb := { m with prog := m.prog.set (k - 1).toNat p }
/-- A member has not added: what is to be added begins further ahead. -/
def back (m : Mb) (x : Ms) : Mb := m.setPr x.frm ((m.prAt x.frm).1, max 1 (min ((m.prAt x.frm).2 - 2) x.index + 1))
/-- A member has added. -/
def matched (m : Mb) (x : Ms) : Mb := (m.setPr x.frm (max (m.prAt x.frm).1 x.index, max (m.prAt x.frm).1 x.index + 1)).settle
def added (m : Mb) (x : Ms) : Mb × List Ms :=
  if m.role ≠ 2 ∨ x.term ≠ m.term then (m, []) else
    if x.yes = false then (m.back x, [(m.back x).addn x.frm]) else
      if x.index < 0 ∨ (lastF 0 0 m.log).1 < x.index then (m, []) else
        if (lastF 0 0 m.log).1 < max (m.prAt x.frm).1 x.index + 1 then (m.matched x, []) else (m.matched x, [(m.matched x).addn x.frm])
/-- Is a message for it, from another one, of a term and a kind that there are? -/
def hears (m : Mb) (x : Ms) : Bool := decide (x.dst = m.id ∧ 1 ≤ x.frm ∧ x.frm ≤ m.prog.length ∧ x.frm ≠ m.id ∧ 1 ≤ x.term ∧ x.term ≤ 1073741824 ∧ 0 ≤ x.kind ∧ x.kind ≤ 3)
def seen (m : Mb) (x : Ms) : Mb := if m.term < x.term then { m with term := x.term, vote := 0, role := 0 } else m
def acts (m : Mb) (x : Ms) : Mb × List Ms := if x.kind = 0 then m.asked x else if x.kind = 1 then m.voted x else if x.kind = 2 then m.add x else m.added x
def hear (m : Mb) (x : Ms) : Mb × List Ms := if m.hears x = true then (m.seen x).acts x else (m, [])
end Mb
/-- One that knows nothing but a ballot and a log. -/
def newMb (id : Int) (many : Nat) (t v : Int) (es : List En) : Mb := ⟨id, t, v, es, 0, 0, [], List.replicate many (0, 0)⟩
/-- Whether there is one. -/
def newOk (id many t v b bt : Int) (es : List En) : Bool := decide (1 ≤ many ∧ many ≤ 16 ∧ 1 ≤ id ∧ id ≤ many ∧ mayV t v = true ∧ mayL b bt es = true ∧ b = 0 ∧ (lastF b bt es).2 ≤ t)
/-- What holds of each that there is. -/
structure MbOk (m : Mb) : Prop where
  n1 : 1 ≤ m.prog.length
  n16 : m.prog.length ≤ 16
  id1 : 1 ≤ m.id
  idn : m.id ≤ m.prog.length
  ballot : mayV m.term m.vote = true
  log : mayL 0 0 m.log = true
  last : endT m.log 0 ≤ m.term
  set0 : 0 ≤ m.settled
  set64 : m.settled ≤ 64
  votes : ∀ v ∈ m.votes, 1 ≤ v ∧ v ≤ 16
  nodup : m.votes.Nodup
  role : 0 ≤ m.role ∧ m.role ≤ 2
  pr : ∀ p ∈ m.prog, 0 ≤ p.1 ∧ p.1 ≤ 64 ∧ 0 ≤ p.2 ∧ p.2 ≤ 65
  live : m.role ≠ 0 → 1 ≤ m.term
theorem mayV_true {t v : Int} (h : mayV t v = true) : 0 ≤ t ∧ t ≤ 1073741824 ∧ (v = 0 ∨ (1 ≤ v ∧ v ≤ 16)) := by
  unfold mayV memberB at h
  simp only [Bool.and_eq_true, Bool.or_eq_true, decide_eq_true_eq, beq_iff_eq] at h
  omega
theorem mayV_mk {t v : Int} (h0 : 0 ≤ t) (h1 : t ≤ 1073741824) (h2 : v = 0 ∨ (1 ≤ v ∧ v ≤ 16)) : mayV t v = true := by
  unfold mayV memberB
  simp only [Bool.and_eq_true, Bool.or_eq_true, decide_eq_true_eq, beq_iff_eq]
  omega
theorem lastF_may {es : List En} (h : mayL 0 0 es = true) : lastF 0 0 es = ((es.length : Int), endT es 0) := by
  unfold lastF
  rw [fairL_yes h]
  simp
namespace MbOk
variable {m : Mb}
theorem lastF (h : MbOk m) : lastF 0 0 m.log = ((m.log.length : Int), endT m.log 0) := lastF_may h.log
theorem len64 (h : MbOk m) : m.log.length ≤ 64 := (mayL_true h.log).2.2.2.2.2.1
theorem rise (h : MbOk m) : rising m.log 0 = true := (mayL_true h.log).2.2.2.2.2.2
theorem prAt (h : MbOk m) (k : Int) : 0 ≤ (m.prAt k).1 ∧ (m.prAt k).1 ≤ 64 ∧ 0 ≤ (m.prAt k).2 ∧ (m.prAt k).2 ≤ 65 := by
  unfold Mb.prAt
  rw [List.getD_eq_getElem?_getD]
  cases hk : m.prog[(k - 1).toNat]? with
  | none => simp
  | some p => exact h.pr p (List.mem_of_getElem? hk)
end MbOk
theorem commitGo_mem (T : Int) (l : List En) (term settled : Int) (k : Nat) : commitGo 0 T l term settled k = settled ∨ (settled < commitGo 0 T l term settled k ∧ commitGo 0 T l term settled k ≤ k) := by
  induction k with
  | zero => unfold commitGo; split <;> omega
  | succ k ih =>
    unfold commitGo
    split
    · split
      · right; omega
      · rcases ih with h | h
        · exact .inl h
        · right; omega
    · exact .inl rfl
theorem commitF_mem {es : List En} (hm : mayL 0 0 es = true) (ms : List Int) (term settled : Int) : commitF 0 0 es ms term settled = settled ∨ (settled < commitF 0 0 es ms term settled ∧ commitF 0 0 es ms term settled ≤ es.length) := by
  unfold commitF
  rw [fairL_yes hm]
  simp only
  unfold commitAt
  split
  · exact .inl rfl
  · rcases commitGo_mem 0 es term settled (min (0 + (es.length : Int)) (mostL ms) - 0).toNat with h | h
    · exact .inl h
    · right; omega
theorem set_mem {α : Type} {l : List α} {k : Nat} {p q : α} (h : q ∈ l.set k p) : q ∈ l ∨ q = p := List.mem_or_eq_of_mem_set h
namespace MbOk
variable {m : Mb}
theorem setPr (h : MbOk m) (k : Int) (p : Int × Int) (hp : 0 ≤ p.1 ∧ p.1 ≤ 64 ∧ 0 ≤ p.2 ∧ p.2 ≤ 65) : MbOk (m.setPr k p) :=
  ⟨by simpa [Mb.setPr] using h.n1, by simpa [Mb.setPr] using h.n16, h.id1, by simpa [Mb.setPr] using h.idn, h.ballot, h.log, h.last, h.set0, h.set64, h.votes, h.nodup, h.role, fun q hq => by
    rcases set_mem hq with h1 | h1
    · exact h.pr q h1
    · subst h1; exact hp, h.live⟩
theorem settle (h : MbOk m) : MbOk m.settle := by
  have hl := h.len64
  refine ⟨h.n1, h.n16, h.id1, h.idn, h.ballot, h.log, h.last, ?_, ?_, h.votes, h.nodup, h.role, h.pr, h.live⟩
  · show 0 ≤ commitF 0 0 m.log _ m.term m.settled
    have h0 := h.set0
    rcases commitF_mem h.log (m.prog.map (·.1)) m.term m.settled with h1 | h1 <;> omega
  · show commitF 0 0 m.log _ m.term m.settled ≤ 64
    have h0 := h.set64
    rcases commitF_mem h.log (m.prog.map (·.1)) m.term m.settled with h1 | h1 <;> omega
theorem mark (h : MbOk m) : MbOk m.mark := by
  have h1 := h.prAt m.id
  have h2 := h.len64
  refine h.setPr m.id _ ?_
  rw [h.lastF]
  simp only
  omega
theorem mayL_put (h : MbOk m) (hl : m.log.length < 64) (ht : 1 ≤ m.term) (c : Cm) : mayL 0 0 (m.log ++ [(m.term, c)]) = true := by
  have h1 := (mayV_true h.ballot)
  refine mayL_mk (by omega) (by omega) (by omega) (by omega) (fun _ => rfl) (by simp; omega) ?_
  rw [rising_append, h.rise, Bool.true_and]
  simp only [rising, Bool.and_true, decide_eq_true_eq]
  have := h.last
  omega
theorem put (h : MbOk m) (ht : 1 ≤ m.term) (c : Cm) : MbOk (m.put c) := by
  unfold Mb.put
  by_cases hl : 64 ≤ m.log.length
  · rw [if_pos hl]; exact h
  · rw [if_neg hl]
    exact ⟨h.n1, h.n16, h.id1, h.idn, h.ballot, h.mayL_put (by omega) ht c, by rw [endT_snoc]; exact Int.le_refl _, h.set0, h.set64, h.votes, h.nodup, h.role, h.pr, h.live⟩
theorem clear (h : MbOk m) (ht : 1 ≤ m.term) : MbOk m.clear := by
  have h2 := h.len64
  refine ⟨by simpa [Mb.clear] using h.n1, by simpa [Mb.clear] using h.n16, h.id1, by simpa [Mb.clear] using h.idn, h.ballot, h.log, h.last, h.set0, h.set64, h.votes, h.nodup, by simp [Mb.clear], fun p hp => ?_, fun _ => ht⟩
  simp only [Mb.clear, List.mem_map] at hp
  obtain ⟨_, _, rfl⟩ := hp
  rw [h.lastF]
  simp only
  omega
theorem lead (h : MbOk m) (ht : 1 ≤ m.term) : MbOk m.lead := ((h.clear ht).put ht _).mark.settle
theorem stand (h : MbOk m) (ht : m.term < 1073741824) : MbOk m.stand := by
  have h1 := mayV_true h.ballot
  have h2 := h.id1
  have h3 := h.idn
  have h4 := h.n16
  have h5 := h.last
  exact ⟨h.n1, h.n16, h.id1, h.idn, mayV_mk (by show 0 ≤ m.term + 1; omega) (by show m.term + 1 ≤ _; omega) (by show m.id = 0 ∨ _; right; show 1 ≤ m.id ∧ m.id ≤ 16; omega), h.log, by show endT m.log 0 ≤ m.term + 1; omega, h.set0, h.set64, fun v hv => by
    simp only [Mb.stand, List.mem_singleton] at hv
    omega, by simp [Mb.stand], by simp [Mb.stand], h.pr, fun _ => by show 1 ≤ m.term + 1; omega⟩
theorem timeout (h : MbOk m) : MbOk m.timeout.1 := by
  have h1 := mayV_true h.ballot
  unfold Mb.timeout
  split
  · exact h
  · rename_i hn
    have hs := h.stand (by omega)
    have ht : 1 ≤ m.stand.term := by show 1 ≤ m.term + 1; omega
    split
    · exact hs.lead ht
    · exact hs
theorem took (h : MbOk m) (ht : 1 ≤ m.term) (c : Cm) : MbOk (m.took c) := (h.put ht c).mark.settle
theorem propose (h : MbOk m) (c : Cm) : MbOk (m.propose c).1 := by
  unfold Mb.propose
  split
  · exact h
  · split
    · exact h
    · rename_i h1 _
      exact h.took (h.live (by omega)) c
end MbOk
theorem seeF_same {t v : Int} : seeF t v t = (t, v) := by unfold seeF; rw [if_neg (by omega)]
theorem seeF_ok {t v : Int} (h : mayV t v = true) (T : Int) : mayV (seeF t v T).1 (seeF t v T).2 = true ∧ t ≤ (seeF t v T).1 := by
  have h1 := mayV_true h
  unfold seeF
  split
  · exact ⟨mayV_mk (by simp only; omega) (by simp only; omega) (.inl rfl), by simp only; omega⟩
  · exact ⟨h, Int.le_refl _⟩
theorem grant_ok {t v : Int} (h : mayV t v = true) (b bt : Int) (es : List En) (f T I LT : Int) : mayV (grantF t v b bt es f T I LT).1 (grantF t v b bt es f T I LT).2.1 = true ∧ t ≤ (grantF t v b bt es f T I LT).1 := by
  obtain ⟨h1, h2⟩ := seeF_ok h T
  have h3 := mayV_true h1
  unfold grantF
  split
  · rename_i hc
    have hm := hc.2.1
    unfold memberB at hm
    rw [Bool.and_eq_true, decide_eq_true_eq, decide_eq_true_eq] at hm
    exact ⟨mayV_mk h3.1 h3.2.1 (.inr hm), h2⟩
  · exact ⟨h1, h2⟩
theorem addF_ok {es : List En} {i T : Int} {more : List En} (h : (addF 0 0 es i T more).2.2.2 = 0) : mayL 0 0 es = true ∧ rising more T = true ∧ 0 ≤ i ∧ i ≤ es.length ∧ (termL 0 0 es i).1 = T ∧ (mergeL es i.toNat more).length ≤ 64 ∧ addF 0 0 es i T more = (0, 0, mergeL es i.toNat more, 0) := by
  unfold addF at h ⊢
  split at h
  · rename_i hc
    rw [if_pos hc]
    split at h
    · cases h
    · rename_i h1
      rw [if_neg h1]
      split at h
      · cases h
      · rename_i h2
        rw [if_neg h2]
        split at h
        · rename_i h3
          rw [if_pos h3]
          split at h
          · cases h
          · rename_i h4
            rw [if_neg h4]
            rw [Int.sub_zero] at h4 ⊢
            exact ⟨hc.1, hc.2, by omega, by omega, h3, by omega, rfl⟩
        · cases h
  · cases h
theorem endT_mem {es : List En} (h : es ≠ []) (f : Int) : ∃ e ∈ es, endT es f = e.1 := by
  unfold endT
  cases hl : es.getLast? with
  | none => rw [List.getLast?_eq_none_iff] at hl; exact (h hl).elim
  | some e => exact ⟨e, List.mem_of_getLast? hl, rfl⟩
theorem mergeL_mem {es ms : List En} {k : Nat} : ∀ {x : En}, x ∈ mergeL es k ms → x ∈ es ∨ x ∈ ms := by
  induction ms generalizing k with
  | nil => intro x hx; exact .inl hx
  | cons m ms ih =>
    intro x hx
    unfold mergeL at hx
    split at hx
    · rcases ih hx with h | h
      · exact .inl h
      · exact .inr (List.mem_cons_of_mem _ h)
    · rcases List.mem_append.1 hx with h | h
      · exact .inl (List.mem_of_mem_take h)
      · exact .inr h
theorem rising_le {es : List En} {f : Int} (h : rising es f = true) : ∀ e ∈ es, f ≤ e.1 ∧ e.1 ≤ endT es f := by
  induction es generalizing f with
  | nil => intro e he; cases he
  | cons x xs ih =>
    rw [rising, Bool.and_eq_true, decide_eq_true_eq] at h
    intro e he
    rw [endT_cons]
    have hx : x.1 ≤ endT xs x.1 := by
      cases xs with
      | nil => exact Int.le_refl _
      | cons y ys =>
        obtain ⟨z, hz, hz2⟩ := endT_mem (List.cons_ne_nil y ys) x.1
        have := ih h.2 z hz
        omega
    rcases List.mem_cons.1 he with rfl | he
    · omega
    · have := ih h.2 e he
      omega
namespace MbOk
variable {m : Mb}
theorem asked (h : MbOk m) (x : Ms) : MbOk (m.asked x).1 := by
  have hg := grant_ok h.ballot 0 0 m.log x.frm x.term x.index x.lterm
  have := h.last
  have hl := h.live
  exact ⟨h.n1, h.n16, h.id1, h.idn, hg.1, h.log, by show endT m.log 0 ≤ (grantF m.term m.vote 0 0 m.log x.frm x.term x.index x.lterm).1; omega, h.set0, h.set64, h.votes, h.nodup, h.role, h.pr, fun hr => by
    have := hl hr
    show 1 ≤ (grantF m.term m.vote 0 0 m.log x.frm x.term x.index x.lterm).1
    omega⟩
theorem counted (h : MbOk m) (x : Ms) (hx : 1 ≤ x.frm ∧ x.frm ≤ 16) : MbOk (m.counted x) := by
  refine ⟨h.n1, h.n16, h.id1, h.idn, h.ballot, h.log, h.last, h.set0, h.set64, ?_, ?_, h.role, h.pr, h.live⟩
  · show ∀ v ∈ (if x.frm ∈ m.votes then m.votes else m.votes ++ [x.frm]), _
    split
    · exact h.votes
    · intro v hv
      rcases List.mem_append.1 hv with hv | hv
      · exact h.votes v hv
      · rw [List.mem_singleton] at hv; omega
  · show (if x.frm ∈ m.votes then m.votes else m.votes ++ [x.frm]).Nodup
    split
    · exact h.nodup
    · rename_i hn
      rw [List.nodup_append]
      exact ⟨h.nodup, by simp, fun a ha b hb e => by rw [List.mem_singleton] at hb; subst hb; subst e; exact hn ha⟩
theorem voted (h : MbOk m) (x : Ms) (hx : 1 ≤ x.frm ∧ x.frm ≤ 16) : MbOk (m.voted x).1 := by
  unfold Mb.voted
  split
  · exact h
  · rename_i hn
    have ht : 1 ≤ (m.counted x).term := h.live (by omega)
    split
    · exact (h.counted x hx).lead ht
    · exact h.counted x hx
theorem follow (h : MbOk m) : MbOk m.follow := ⟨h.n1, h.n16, h.id1, h.idn, h.ballot, h.log, h.last, h.set0, h.set64, h.votes, h.nodup, by simp [Mb.follow], h.pr, fun hr => (hr rfl).elim⟩
theorem add (h : MbOk m) (x : Ms) (hx : x.term ≤ m.term) : MbOk (m.add x).1 := by
  unfold Mb.add
  split
  · exact h
  · split
    · exact h
    · split
      · exact h.follow
      · rename_i h1 h2 h3
        have he : (addF 0 0 m.log x.index x.lterm x.ents).2.2.2 = 0 := by omega
        obtain ⟨a1, a2, a3, a4, a5, a6, a7⟩ := addF_ok he
        have hodd : ∀ e ∈ x.ents, e.1 ≤ x.term := fun e hmem => by
          have h4 : ¬ Mb.oddF x = true := fun hc => h3 (.inr hc)
          unfold Mb.oddF at h4
          rw [List.any_eq_true] at h4
          refine Int.not_lt.1 fun hlt => h4 ⟨e, hmem, decide_eq_true hlt⟩
        rw [a7]
        simp only
        have f := mergeL_facts m.log x.ents x.index.toNat (by omega)
        have hr : rising (mergeL m.log x.index.toNat x.ents) 0 = true := f.2.2.2.1 0 h.rise (by
          rw [termL_at (b := 0) (t := 0) (es := m.log) x.index.toNat (by omega) (by omega)] at a5
          simp only at a5
          rw [a5]; exact a2)
        refine ⟨h.n1, h.n16, h.id1, h.idn, h.ballot, mayL_mk (by omega) (by omega) (by omega) (by omega) (fun _ => rfl) a6 hr, ?_, ?_, ?_, h.votes, h.nodup, by simp [Mb.added'], h.pr, fun hr => (hr rfl).elim⟩
        · show endT (mergeL m.log x.index.toNat x.ents) 0 ≤ m.term
          by_cases hn : mergeL m.log x.index.toNat x.ents = []
          · rw [hn]; have := (mayV_true h.ballot).1; simpa [endT_nil] using this
          · obtain ⟨e, hmem, he⟩ := endT_mem hn 0
            rw [he]
            rcases mergeL_mem hmem with h5 | h5
            · have := (rising_le h.rise e h5).2
              have := h.last
              omega
            · have := hodd e h5
              omega
        · show 0 ≤ max m.settled (min x.commit (x.index + x.ents.length))
          have := h.set0
          omega
        · show max m.settled (min x.commit (x.index + x.ents.length)) ≤ 64
          have := h.set64
          have := f.1
          omega
theorem back (h : MbOk m) (x : Ms) : MbOk (m.back x) := h.setPr _ _ (by have := h.prAt x.frm; simp only; omega)
theorem matched (h : MbOk m) (x : Ms) (hx : 0 ≤ x.index ∧ x.index ≤ 64) : MbOk (m.matched x) := (h.setPr _ _ (by have := h.prAt x.frm; simp only; omega)).settle
theorem added (h : MbOk m) (x : Ms) : MbOk (m.added x).1 := by
  have hl := h.len64
  have hlf := h.lastF
  unfold Mb.added
  split
  · exact h
  · split
    · exact h.back x
    · split
      · exact h
      · rename_i h3
        rw [hlf] at h3 ⊢
        simp only at h3 ⊢
        split
        · exact h.matched x (by omega)
        · exact h.matched x (by omega)
theorem seen (h : MbOk m) (x : Ms) (hx : x.term ≤ 1073741824) : MbOk (m.seen x) := by
  unfold Mb.seen
  split
  · have h1 := mayV_true h.ballot
    have h5 := h.last
    exact ⟨h.n1, h.n16, h.id1, h.idn, mayV_mk (by simp only; omega) (by simp only; omega) (.inl rfl), h.log, by simp only; omega, h.set0, h.set64, h.votes, h.nodup, by simp, h.pr, fun hr => (hr rfl).elim⟩
  · exact h
theorem hear (h : MbOk m) (x : Ms) : MbOk (m.hear x).1 := by
  unfold Mb.hear
  split
  · rename_i hh
    unfold Mb.hears at hh
    rw [decide_eq_true_eq] at hh
    have hs := h.seen x (by omega)
    have hst : x.term ≤ (m.seen x).term := by
      unfold Mb.seen
      split
      · exact Int.le_refl _
      · omega
    have hfr : 1 ≤ x.frm ∧ x.frm ≤ 16 := by have := h.n16; omega
    unfold Mb.acts
    split
    · exact hs.asked x
    · split
      · exact hs.voted x hfr
      · split
        · exact hs.add x hst
        · exact hs.added x
  · exact h
end MbOk
theorem newMb_ok {id : Int} {many : Nat} {t v b bt : Int} {es : List En} (h : newOk id many t v b bt es = true) : bt = 0 ∧ MbOk (newMb id many t v es) := by
  unfold newOk at h
  rw [decide_eq_true_eq] at h
  obtain ⟨h1, h2, h3, h4, h5, h6, rfl, h8⟩ := h
  have hbt : bt = 0 := (mayL_true h6).2.2.2.2.1 rfl
  subst hbt
  rw [lastF_may h6] at h8
  have hr : List.length (newMb id many t v es).prog = many := by simp [newMb]
  refine ⟨rfl, { n1 := by omega, n16 := by omega, id1 := h3, idn := by rw [hr]; exact h4, ballot := h5, log := h6, last := h8, set0 := Int.le_refl _, set64 := (by decide : (0 : Int) ≤ 64), votes := (fun v hv => by cases hv), nodup := List.nodup_nil, role := (by decide : (0 : Int) ≤ 0 ∧ (0 : Int) ≤ 2), pr := fun p hp => ?_, live := fun hr => (hr rfl).elim }⟩
  simp only [newMb] at hp
  have := List.eq_of_mem_replicate hp
  subst this
  simp
end Go.Proofs.YthjdbmfobmnnlaaGreat

/-
  A world that is another but for one block.
-/
namespace Go.Proofs.YthjdbmfobmnnlaaGreat
open Go.RowKit
set_option linter.unusedVariables false
/-- 'w'' is 'w' but for block R, and for blocks that are new. -/
structure Only (R : Nat) (w w' : World) : Prop where
  os : w'.os = w.os
  tape : w'.tape = w.tape
  output : w'.output = w.output
  size : w.heap.size ≤ w'.heap.size
  block : ∀ k, k < w.heap.size → k ≠ R → w'.heap[k]? = w.heap[k]?
theorem Only.refl (R : Nat) (w : World) : Only R w w := ⟨rfl, rfl, rfl, Nat.le_refl _, fun _ _ _ => rfl⟩
theorem Only.trans {R : Nat} {a b c : World} (h : Only R a b) (k : Only R b c) : Only R a c :=
  ⟨k.os.trans h.os, k.tape.trans h.tape, k.output.trans h.output, Nat.le_trans h.size k.size, fun i hi hne => (k.block i (Nat.lt_of_lt_of_le hi h.size) hne).trans (h.block i hi hne)⟩
theorem Only.many {R : Nat} {a w : World} (h : Only R a w) (n : Nat) : Only R a (w.drewN n) := ⟨h.os, h.tape, h.output, h.size, h.block⟩
theorem Only.setCell {R : Nat} {a w : World} (h : Only R a w) (i : Nat) (v : Value) : Only R a (w.setCell ⟨R, i, none⟩ v) :=
  ⟨h.os, h.tape, h.output, by simpa [World.setCell] using h.size, fun k hk hne => by rw [Below.heap_setCell _ _ _ _ (by simpa using hne)]; exact h.block k hk hne⟩
theorem Only.of_below {R : Nat} {w w' : World} (h : Below w.heap.size w w') : Only R w w' := ⟨h.os, h.tape, h.output, h.size, fun k hk _ => h.block k hk⟩
theorem Only.below {R B : Nat} {w0 w w' : World} (h : Only R w w') (h0 : Below B w0 w) (hR : B ≤ R) (hB : B ≤ w.heap.size) : Below B w0 w' :=
  ⟨h.os.trans h0.os, h.tape.trans h0.tape, h.output.trans h0.output, Nat.le_trans h0.size h.size, fun k hk => (h.block k (Nat.lt_of_lt_of_le hk hB) (by omega)).trans (h0.block k hk)⟩
theorem Only.keep {R F : Nat} {w w' : World} {o : Obj} (h : Only R w w') (hF : w.heap[F]? = some o) (hne : F ≠ R) : w'.heap[F]? = some o := by rw [h.block F (blk_lt hF) hne]; exact hF
/-- A row of one's own that does not lie in block R. -/
theorem own_only {w w' : World} {R base : Nat} {e : TypeId} {size : Nat} {v : Value} {n : Nat} {xs : List Value} (h : w.ownsRow base e size v n xs) (hb : Only R w w') (hR : R < base) : w'.ownsRow base e size v n xs := by
  refine ⟨h.1, ?_⟩
  rcases h.2 with h2 | ⟨g, cap, cur, hv, hg, hh, r⟩
  · exact .inl h2
  · exact .inr ⟨g, cap, cur, hv, hg, by rw [hb.block g (Nat.lt_of_not_le fun hle => by rw [Array.getElem?_eq_none hle] at hh; cases hh) (by omega)]; exact hh, r⟩
end Go.Proofs.YthjdbmfobmnnlaaGreat

/-
  A world that is another but for some blocks, and for what is new.
-/
namespace Go.Proofs.YthjdbmfobmnnlaaGreat
open Go.RowKit
set_option linter.unusedVariables false
/-- 'w'' is 'w' but for the blocks S, and for blocks that are new. -/
structure Chg (S : List Nat) (w w' : World) : Prop where
  os : w'.os = w.os
  tape : w'.tape = w.tape
  output : w'.output = w.output
  size : w.heap.size ≤ w'.heap.size
  block : ∀ k, k < w.heap.size → k ∉ S → w'.heap[k]? = w.heap[k]?
theorem Chg.refl (S : List Nat) (w : World) : Chg S w w := ⟨rfl, rfl, rfl, Nat.le_refl _, fun _ _ _ => rfl⟩
theorem Chg.trans {S T : List Nat} {a b c : World} (h : Chg S a b) (k : Chg T b c) (hT : ∀ x ∈ T, x ∈ S ∨ a.heap.size ≤ x) : Chg S a c :=
  ⟨k.os.trans h.os, k.tape.trans h.tape, k.output.trans h.output, Nat.le_trans h.size k.size, fun i hi hne => (k.block i (Nat.lt_of_lt_of_le hi h.size) fun hc => by rcases hT i hc with h1 | h1; exact hne h1; omega).trans (h.block i hi hne)⟩
theorem Chg.mono {S T : List Nat} {a b : World} (h : Chg S a b) (hs : ∀ x ∈ S, x ∈ T ∨ a.heap.size ≤ x) : Chg T a b :=
  ⟨h.os, h.tape, h.output, h.size, fun k hk hne => h.block k hk fun hc => by rcases hs k hc with h1 | h1; exact hne h1; omega⟩
theorem Chg.of_below {S : List Nat} {w w' : World} (h : Below w.heap.size w w') : Chg S w w' := ⟨h.os, h.tape, h.output, h.size, fun k hk _ => h.block k hk⟩
theorem Chg.below {S : List Nat} {a w w' : World} (h : Chg S a w) (hb : Below w.heap.size w w') : Chg S a w' := h.trans (T := []) (Chg.of_below hb) (fun x hx => by cases hx)
theorem Chg.pre {S : List Nat} {a w w' : World} (hb : Below a.heap.size a w) (h : Chg S w w') : Chg S a w' := (Chg.of_below hb).trans h (fun x hx => .inl hx)
theorem Chg.of_belowB {S : List Nat} {B : Nat} {w w' : World} (h : Below B w w') (hS : ∀ x, B ≤ x → x < w.heap.size → x ∈ S) : Chg S w w' := ⟨h.os, h.tape, h.output, h.size, fun k hk hne => h.block k (Nat.lt_of_not_le fun hc => hne (hS k hc hk))⟩
theorem Chg.many {S : List Nat} {a w : World} (h : Chg S a w) (n : Nat) : Chg S a (w.drewN n) := ⟨h.os, h.tape, h.output, h.size, h.block⟩
theorem Chg.drew {S : List Nat} {a w : World} (h : Chg S a w) : Chg S a w.drew := ⟨h.os, h.tape, h.output, h.size, h.block⟩
theorem Chg.setCell {S : List Nat} {a w : World} (h : Chg S a w) {b : Nat} (hb : b ∈ S ∨ a.heap.size ≤ b) (i : Nat) (v : Value) : Chg S a (w.setCell ⟨b, i, none⟩ v) :=
  ⟨h.os, h.tape, h.output, by simpa [World.setCell] using h.size, fun k hk hne => by
    have : k ≠ b := fun e => by subst e; rcases hb with h1 | h1; exact hne h1; omega
    rw [Below.heap_setCell _ _ _ _ (by simpa using this)]; exact h.block k hk hne⟩
theorem Chg.alloc {S : List Nat} {a w : World} (h : Chg S a w) (o : Obj) : Chg S a (w.alloc o) := h.below (below1 w o)
theorem Chg.grown {S : List Nat} {a w w' : World} {row : Option Nat} (h : Chg S a w) (hg : w.grownBy w' row) (hr : ∀ b, row = some b → b ∈ S ∨ a.heap.size ≤ b) : Chg S a w' :=
  ⟨hg.os.trans h.os, hg.tape.trans h.tape, hg.output.trans h.output, Nat.le_trans h.size hg.size, fun k hk hne => (hg.block k (Nat.lt_of_lt_of_le hk h.size) fun hc => by rcases hr k hc.symm with h1 | h1; exact hne h1; omega).trans (h.block k hk hne)⟩
theorem Chg.keep {S : List Nat} {F : Nat} {w w' : World} {o : Obj} (h : Chg S w w') (hF : w.heap[F]? = some o) (hne : F ∉ S) : w'.heap[F]? = some o := by rw [h.block F (blk_lt hF) hne]; exact hF
theorem Chg.to_below {S : List Nat} {B : Nat} {w w' : World} (h : Chg S w w') (hS : ∀ x ∈ S, B ≤ x) (hB : B ≤ w.heap.size) : Below B w w' := ⟨h.os, h.tape, h.output, h.size, fun k hk => h.block k (Nat.lt_of_lt_of_le hk hB) fun hc => by have := hS k hc; omega⟩
theorem Chg.cell {S : List Nat} {w w' : World} (h : Chg S w w') {b o : Nat} (hb : b < w.heap.size) (hne : b ∉ S) : w'.cell? ⟨b, o, none⟩ = w.cell? ⟨b, o, none⟩ := by
  have := h.block b hb hne
  simp only [World.cell?, this]
/-- The block of an address. -/
def blkOf : Option Addr → List Nat
  | none => []
  | some p => [p.block]
theorem RowAt.chg {S : List Nat} {w w' : World} {A : Option Addr} {xs : List Value} (h : RowAt w A xs) (hc : Chg S w w') (hne : ∀ x ∈ blkOf A, x ∉ S) : RowAt w' A xs := by
  rcases h with h | ⟨b, off, rfl, hlt, hx⟩
  · exact .inl h
  · exact .inr ⟨b, off, rfl, Nat.lt_of_lt_of_le hlt hc.size, fun i u hi => by rw [hc.cell hlt (hne b (by simp [blkOf]))]; exact hx i u hi⟩
theorem own_chg {S : List Nat} {w w' : World} {base : Nat} {e : TypeId} {size : Nat} {A : Option Addr} {m cap : Nat} {n : Nat} {xs : List Value} (h : w.ownsRow base e size (.slice A m cap) n xs) (hc : Chg S w w') (hne : ∀ x ∈ blkOf A, x ∉ S) : w'.ownsRow base e size (.slice A m cap) n xs := by
  refine ⟨h.1, ?_⟩
  rcases h.2 with h2 | ⟨g, cap, cur, hv, hg, hh, r⟩
  · exact .inl h2
  · injection hv with h1 h2 h3
    subst h1
    exact .inr ⟨g, cap, cur, by rw [h2, h3], hg, hc.keep hh (hne g (by simp [blkOf])), r⟩
/-- A row's own block lies below the heap's end. -/
theorem own_blk {w : World} {base : Nat} {e : TypeId} {size : Nat} {A : Option Addr} {m cap : Nat} {n : Nat} {xs : List Value} (h : w.ownsRow base e size (.slice A m cap) n xs) : ∀ x ∈ blkOf A, base ≤ x ∧ x < w.heap.size := by
  intro x hx
  rcases h.2 with ⟨h2, _⟩ | ⟨g, cap, cur, hv, hg, hh, r⟩
  · injection h2 with h1
    subst h1
    cases hx
  · injection hv with h1 h2 h3
    subst h1
    simp only [blkOf, List.mem_singleton] at hx
    subst hx
    exact ⟨hg, blk_lt hh⟩
/-- A row's base may be any number that its own block does not lie below. -/
theorem own_rebase {w : World} {base base' : Nat} {e : TypeId} {size : Nat} {A : Option Addr} {m cap : Nat} {n : Nat} {xs : List Value} (h : w.ownsRow base e size (.slice A m cap) n xs) (hb : ∀ x ∈ blkOf A, base' ≤ x) : w.ownsRow base' e size (.slice A m cap) n xs := by
  refine ⟨h.1, ?_⟩
  rcases h.2 with h2 | ⟨g, cap, cur, hv, hg, r⟩
  · exact .inl h2
  · injection hv with h1 h2 h3
    subst h1
    exact .inr ⟨g, cap, cur, by rw [h2, h3], hb g (by simp [blkOf]), r⟩
end Go.Proofs.YthjdbmfobmnnlaaGreat

/-
  How one of a group lies in memory; its votes; what it says.
-/
namespace Go.Proofs.YthjdbmfobmnnlaaGreat
open Go.RowKit
open Go.Maps (Keyed)
set_option linter.unusedVariables false
/-! ### The votes: a map from numbers to true -/
theorem voteK : Keyed Tryz.prog 3 := Maps.int_keyed Tryz.underlying3
/-- Block b is a map whose keys are these. -/
def VotesAt (w : World) (b : Nat) (vs : List Int) : Prop := ∃ D : DataW Unit, w.ownsMap Tryz.prog 3 (plainElem Tryz.prog 4) b 16 D ∧ (∀ k : Int, 1 ≤ k → k ≤ 16 → Maps.has D (.int .i64 k) = decide (k ∈ vs)) ∧ Maps.size D = vs.length
theorem VotesAt.lt {w : World} {b : Nat} {vs : List Int} (h : VotesAt w b vs) : b < w.heap.size := by obtain ⟨D, h, _⟩ := h; exact h.lt
theorem VotesAt.keep {w w' : World} {b : Nat} {vs : List Int} (h : VotesAt w b vs) (hb : w'.heap[b]? = w.heap[b]?) : VotesAt w' b vs := by
  obtain ⟨D, ⟨es, clock, h1, h2⟩, h3⟩ := h
  exact ⟨D, ⟨es, clock, by rw [hb]; exact h1, h2⟩, h3⟩
theorem VotesAt.chg {S : List Nat} {w w' : World} {b : Nat} {vs : List Int} (h : VotesAt w b vs) (hc : Chg S w w') (hb : b ∉ S) : VotesAt w' b vs := h.keep (hc.block b h.lt hb)
theorem VotesAt.below {w w' : World} {b : Nat} {vs : List Int} (h : VotesAt w b vs) (hc : Below w.heap.size w w') : VotesAt w' b vs := h.keep (hc.block b h.lt)
theorem VotesAt.setCell {w : World} {b : Nat} {vs : List Int} (h : VotesAt w b vs) {c : Nat} (hne : b ≠ c) (i : Nat) (v : Value) : VotesAt (w.setCell ⟨c, i, none⟩ v) b vs := h.keep (Below.heap_setCell _ _ _ _ hne)
theorem VotesAt.made (w : World) : VotesAt (w.alloc (.map #[] 0)) w.heap.size [] :=
  ⟨.map [], (World.ownsMap_made w Tryz.prog 3 (plainElem Tryz.prog 4)).mono (by omega), fun k _ _ => by simp [Maps.has], rfl⟩
theorem ownsMap_tight {P : Program} {k : TypeId} {R : Value → Option (DataW Unit × List MemPlace)} {w : World} {b n m : Nat} {D : DataW Unit} (h : w.ownsMap P k R b n D) (hs : Maps.size D ≤ m) : w.ownsMap P k R b m D := by
  obtain ⟨es, clock, hb, F, _, rfl⟩ := h
  refine ⟨es, clock, hb, F, ?_, rfl⟩
  have e : Maps.size (DataW.map ((es.toList.map (WideElems.rg P k R)).foldr DataW.insert [])) = es.size := by simp [Maps.size, length_sorted]
  omega
theorem VotesAt.turned {w w' : World} {b : Nat} (h : w.mapTurned w' b) : Chg [b] w w' := by
  have := h.grown
  exact (Chg.refl [b] w).grown this fun x hx => by cases hx; exact .inl (by simp)
theorem voteKey {k : Int} (h1 : 1 ≤ k) (h2 : k ≤ 16) : keyOf Tryz.prog 3 (.int .i64 k) = some (.int .i64 k) := Maps.keyOf_int_mk Tryz.underlying3 (by simp [Lit.wf, IntKind.min, IntKind.max, IntKind.bits, IntKind.signed]; omega)
theorem VotesAt.putD {w w' : World} {b : Nat} {vs : List Int} {D : DataW Unit} (ho : w.ownsMap Tryz.prog 3 (plainElem Tryz.prog 4) b 16 D) (hh : ∀ k : Int, 1 ≤ k → k ≤ 16 → Maps.has D (.int .i64 k) = decide (k ∈ vs)) (hs : Maps.size D = vs.length) (k : Int) (h1 : 1 ≤ k) (h2 : k ≤ 16) (hn : (if k ∈ vs then vs else vs ++ [k]).length ≤ 16)
    (ho' : w'.ownsMap Tryz.prog 3 (plainElem Tryz.prog 4) b (16 + 1) (D.put (.int .i64 k) (.lit (.bool true)))) : VotesAt w' b (if k ∈ vs then vs else vs ++ [k]) := by
  have hkey := voteKey h1 h2
  have hsz : Maps.size (D.put (.int .i64 k) (.lit (.bool true))) = (if k ∈ vs then vs else vs ++ [k]).length := by
    rw [Maps.size_put (ho.tidy voteK), hh k h1 h2]
    by_cases hk : k ∈ vs
    · simp [hk, hs]
    · simp [hk, hs]
  refine ⟨_, ownsMap_tight ho' (by rw [hsz]; exact hn), fun j j1 j2 => ?_, hsz⟩
  by_cases hj : j = k
  · subst hj
    rw [Maps.has_put_same ho.isMap (voteK.key hkey)]
    by_cases hk : j ∈ vs <;> simp [hk]
  · rw [Maps.has_put_other (by intro e; injection e with _ e; exact hj e), hh j j1 j2]
    by_cases hk : k ∈ vs <;> simp [hk, hj]
theorem VotesAt.clear {w : World} {b : Nat} {vs : List Int} (h : VotesAt w b vs) (ty : TypeId) :
    ∃ w', (Builtin.clear_ #[123] ty #[.map (some b)]).run Tryz.prog w = .ok (.tuple #[]) w' ∧ VotesAt w' b [] ∧ Chg [b] w w' := by
  obtain ⟨D, ⟨es, clock, hb, F, hs⟩, _⟩ := h
  refine ⟨ChangeMaps.setBlock w b (.map #[] clock), ?_, ⟨.map [], ⟨#[], clock, ChangeMaps.heap_setBlock_same hb _, ⟨by simp, MapKept.stamped_empty clock, by simp⟩, by simp, rfl⟩, fun k _ _ => by simp [Maps.has], rfl⟩, VotesAt.turned ⟨es, clock, #[], clock, hb, rfl⟩⟩
  simp [Builtin.clear_, run_underlying Tryz.underlying123, MapKept.run_getObj_map hb, MapKept.run_setObj_map _ hb, ChangeMaps.setBlock, Result.andThen]
theorem VotesAt.len {w : World} {b : Nat} {vs : List Int} (h : VotesAt w b vs) (ty : TypeId) : (Builtin.len_ #[123] ty #[.map (some b)]).run Tryz.prog w = .ok (.int .i64 (vs.length : Nat)) w := by
  obtain ⟨D, ho, _, hs⟩ := h
  rw [← hs]
  exact ho.len Tryz.underlying123 ty
/-! ### A member's block, its log, its votes, and what it knows of each -/
def prV (l : List (Int × Int)) : List Value := l.flatMap fun p => [.int .i64 p.1, .int .i64 p.2]
theorem prV_length (l : List (Int × Int)) : (prV l).length = l.length * 2 := by
  induction l with
  | nil => rfl
  | cons p l ih => rw [prV, List.flatMap_cons, List.length_append]; have : (l.flatMap fun p => [Value.int .i64 p.1, .int .i64 p.2]).length = l.length * 2 := ih; simp only [this, List.length_cons, List.length_nil]; omega
theorem prV_cons (p : Int × Int) (l : List (Int × Int)) : prV (p :: l) = .int .i64 p.1 :: .int .i64 p.2 :: prV l := rfl
theorem prV_at {l : List (Int × Int)} {k : Nat} (hk : k < l.length) : (prV l)[k * 2]? = some (.int .i64 (l[k]).1) ∧ (prV l)[k * 2 + 1]? = some (.int .i64 (l[k]).2) := by
  induction l generalizing k with
  | nil => simp at hk
  | cons p l ih =>
    rw [prV_cons]
    cases k with
    | zero => exact ⟨rfl, rfl⟩
    | succ k =>
      have := ih (k := k) (by simpa using hk)
      rw [show (k + 1) * 2 = k * 2 + 1 + 1 by omega]
      simpa using this
theorem prV_set {l : List (Int × Int)} {k : Nat} (hk : k < l.length) (p : Int × Int) : prV (l.set k p) = ((prV l).set (k * 2) (.int .i64 p.1)).set (k * 2 + 1) (.int .i64 p.2) := by
  induction l generalizing k with
  | nil => simp at hk
  | cons q l ih =>
    cases k with
    | zero => rfl
    | succ k =>
      rw [List.set_cons_succ, prV_cons, prV_cons, ih (by simpa using hk), show (k + 1) * 2 = k * 2 + 1 + 1 by omega]
      rfl
theorem elemP : Elem Tryz.prog 124 183 (.agg #[.int .i64 0, .int .i64 0]) 2 16 := ⟨Tryz.underlying124, by kernel_rfl, rfl, by omega⟩
/-- Where a member's parts lie: its log, its votes, what it knows of each. -/
structure MA where
  la : Option Addr
  lc : Nat
  vb : Nat
  oa : Nat
  oc : Nat
abbrev mbC (m : Mb) (a : MA) : Array Value := #[.int .i64 m.id, .int .i64 m.term, .int .i64 m.vote, .int .i64 0, .int .i64 0, .slice a.la m.log.length a.lc, .int .i64 m.role, .int .i64 m.settled, .map (some a.vb), .slice (some ⟨a.oa, 0, none⟩) m.prog.length a.oc]
/-- A member in block b. -/
structure MAt (w : World) (b : Nat) (a : MA) (m : Mb) : Prop where
  blk : w.heap[b]? = some (.cells (mbC m a) 126)
  log : w.ownsRow 0 82 7 (.slice a.la m.log.length a.lc) m.log.length (ensV m.log)
  votes : VotesAt w a.vb m.votes
  prog : w.ownsRow 0 183 2 (.slice (some ⟨a.oa, 0, none⟩) m.prog.length a.oc) m.prog.length (prV m.prog)
/-- The blocks of a member. -/
def foot (b : Nat) (a : MA) : List Nat := [b, a.vb, a.oa] ++ blkOf a.la
theorem foot_b (b : Nat) (a : MA) : b ∈ foot b a := by simp [foot]
theorem foot_v (b : Nat) (a : MA) : a.vb ∈ foot b a := by simp [foot]
theorem foot_o (b : Nat) (a : MA) : a.oa ∈ foot b a := by simp [foot]
theorem foot_l {b : Nat} {a : MA} {x : Nat} (h : x ∈ blkOf a.la) : x ∈ foot b a := by simp [foot, h]
theorem MAt.lt {w : World} {b : Nat} {a : MA} {m : Mb} (h : MAt w b a m) : ∀ x ∈ foot b a, x < w.heap.size := by
  intro x hx
  simp only [foot, List.cons_append, List.nil_append, List.mem_cons] at hx
  rcases hx with rfl | rfl | rfl | hx
  · exact blk_lt h.blk
  · exact h.votes.lt
  · exact (own_blk h.prog _ (by simp [blkOf])).2
  · exact (own_blk h.log _ hx).2
theorem MAt.chg {S : List Nat} {w w' : World} {b : Nat} {a : MA} {m : Mb} (h : MAt w b a m) (hc : Chg S w w') (hne : ∀ x ∈ foot b a, x ∉ S) : MAt w' b a m :=
  ⟨hc.keep h.blk (hne b (foot_b b a)), own_chg h.log hc fun x hx => hne x (foot_l hx), h.votes.chg hc (hne _ (foot_v b a)), own_chg h.prog hc fun x hx => by
    simp only [blkOf, List.mem_singleton] at hx
    subst hx
    exact hne _ (foot_o b a)⟩
theorem MAt.below {w w' : World} {b : Nat} {a : MA} {m : Mb} (h : MAt w b a m) (hc : Below w.heap.size w w') : MAt w' b a m := h.chg (S := []) (Chg.of_below hc) (fun x _ hx => by cases hx)
theorem box10 {w : World} {F : Nat} {c0 c1 c2 c3 c4 c5 c6 c7 c8 c9 : Value} {t : TypeId} (h : w.heap[F]? = some (.cells #[c0, c1, c2, c3, c4, c5, c6, c7, c8, c9] t)) :
    w.cell? ⟨F, 0, none⟩ = some c0 ∧ w.cell? ⟨F, 1, none⟩ = some c1 ∧ w.cell? ⟨F, 2, none⟩ = some c2 ∧ w.cell? ⟨F, 3, none⟩ = some c3 ∧ w.cell? ⟨F, 4, none⟩ = some c4 ∧ w.cell? ⟨F, 5, none⟩ = some c5 ∧ w.cell? ⟨F, 6, none⟩ = some c6 ∧ w.cell? ⟨F, 7, none⟩ = some c7 ∧ w.cell? ⟨F, 8, none⟩ = some c8 ∧ w.cell? ⟨F, 9, none⟩ = some c9 ∧ F < w.heap.size :=
  ⟨blk_cell h 0, blk_cell h 1, blk_cell h 2, blk_cell h 3, blk_cell h 4, blk_cell h 5, blk_cell h 6, blk_cell h 7, blk_cell h 8, blk_cell h 9, blk_lt h⟩
/-- A member's blocks are not one another. -/
theorem MAt.apart {w : World} {b : Nat} {a : MA} {m : Mb} (h : MAt w b a m) : a.vb ≠ b ∧ a.oa ≠ b ∧ (∀ x ∈ blkOf a.la, x ≠ b) ∧ a.vb ≠ a.oa ∧ (∀ x ∈ blkOf a.la, x ≠ a.vb) ∧ ∀ x ∈ blkOf a.la, x ≠ a.oa := by
  obtain ⟨hb, hl, ⟨D, ⟨es, clock, hv, _⟩, _⟩, hp⟩ := h
  have ho : ∃ cur, w.heap[a.oa]? = some (.cells cur 183) := by
    rcases hp.2 with ⟨h2, _⟩ | ⟨g, cap, cur, hv, hg, hh, r⟩
    · cases h2
    · injection hv with h1; injection h1 with h1; injection h1 with h1; subst h1; exact ⟨cur, hh⟩
  have hla : ∀ x ∈ blkOf a.la, ∃ cur, w.heap[x]? = some (.cells cur 82) := fun x hx => by
    rcases hl.2 with ⟨h2, _⟩ | ⟨g, cap, cur, hv, hg, hh, r⟩
    · injection h2 with h1; rw [h1] at hx; cases hx
    · injection hv with h1; rw [h1] at hx; simp only [blkOf, List.mem_singleton] at hx; subst hx; exact ⟨cur, hh⟩
  obtain ⟨oc, ho⟩ := ho
  refine ⟨fun e => ?_, fun e => ?_, fun x hx e => ?_, fun e => ?_, fun x hx e => ?_, fun x hx e => ?_⟩
  · rw [e, hb] at hv; cases hv
  · rw [e, hb] at ho; injection ho with ho; injection ho with _ ho; exact absurd ho (by decide)
  · obtain ⟨c, hc⟩ := hla x hx; rw [e, hb] at hc; injection hc with hc; injection hc with _ hc; exact absurd hc (by decide)
  · rw [e, ho] at hv; cases hv
  · obtain ⟨c, hc⟩ := hla x hx; rw [e, hv] at hc; cases hc
  · obtain ⟨c, hc⟩ := hla x hx; rw [e, ho] at hc; injection hc with hc; injection hc with _ hc; exact absurd hc (by decide)
theorem own_setFar {w : World} {base : Nat} {e : TypeId} {size : Nat} {A : Option Addr} {m cap : Nat} {n : Nat} {xs : List Value} (h : w.ownsRow base e size (.slice A m cap) n xs) {b : Nat} (hne : ∀ x ∈ blkOf A, x ≠ b) (i : Nat) (v : Value) : (w.setCell ⟨b, i, none⟩ v).ownsRow base e size (.slice A m cap) n xs :=
  own_chg h ((Chg.refl [b] w).setCell (.inl (by simp)) i v) fun x hx hc => hne x hx (by simpa using hc)
/-- One of the member's own cells is written. -/
theorem MAt.store {w : World} {b : Nat} {a : MA} {m m' : Mb} (h : MAt w b a m) (i : Nat) (v : Value) (hc : (mbC m a).setIfInBounds i v = mbC m' a) (h1 : m'.log = m.log) (h2 : m'.votes = m.votes) (h3 : m'.prog = m.prog) : MAt (w.setCell ⟨b, i, none⟩ v) b a m' := by
  obtain ⟨a1, a2, a3, _⟩ := h.apart
  refine ⟨?_, by rw [h1]; exact own_setFar h.log a3 i v, by rw [h2]; exact h.votes.setCell a1 i v, by rw [h3]; exact own_setFar h.prog (fun x hx => by simp only [blkOf, List.mem_singleton] at hx; subst hx; exact a2) i v⟩
  have := blk_set (i := i) h.blk v
  rw [hc] at this
  exact this
theorem MAt.drew {w : World} {b : Nat} {a : MA} {m : Mb} (h : MAt w b a m) : MAt w.drew b a m := ⟨h.blk, h.log, h.votes.keep rfl, h.prog⟩
theorem MAt.many {w : World} {b : Nat} {a : MA} {m : Mb} (h : MAt w b a m) (n : Nat) : MAt (w.drewN n) b a m := ⟨h.blk, h.log, h.votes.keep rfl, h.prog⟩
/-- What became of the rest of memory while a member did something. -/
structure Step (w : World) (b : Nat) (a : MA) (w' : World) (a' : MA) : Prop where
  chg : Chg (foot b a) w w'
  sub : ∀ x ∈ foot b a', x ∈ foot b a ∨ w.heap.size ≤ x
theorem Step.refl (w : World) (b : Nat) (a : MA) : Step w b a w a := ⟨Chg.refl _ _, fun x hx => .inl hx⟩
theorem Step.of_below {w w' : World} {b : Nat} {a : MA} (h : Below w.heap.size w w') : Step w b a w' a := ⟨Chg.of_below h, fun x hx => .inl hx⟩
theorem Step.trans {w w1 w2 : World} {b : Nat} {a a1 a2 : MA} (h : Step w b a w1 a1) (k : Step w1 b a1 w2 a2) : Step w b a w2 a2 :=
  ⟨h.chg.trans k.chg h.sub, fun x hx => by
    rcases k.sub x hx with h1 | h1
    · exact h.sub x h1
    · exact .inr (Nat.le_trans h.chg.size h1)⟩
theorem Step.below {w w1 w2 : World} {b : Nat} {a a1 : MA} (h : Step w b a w1 a1) (k : Below w1.heap.size w1 w2) : Step w b a w2 a1 := h.trans (.of_below k)
theorem Step.pre {w w1 w2 : World} {b : Nat} {a a1 : MA} (k : Below w.heap.size w w1) (h : Step w1 b a w2 a1) : Step w b a w2 a1 := (Step.of_below k).trans h
theorem Step.store {w w1 : World} {b : Nat} {a a1 : MA} (h : Step w b a w1 a1) (i : Nat) (v : Value) : Step w b a (w1.setCell ⟨b, i, none⟩ v) a1 := ⟨h.chg.setCell (.inl (foot_b b a)) i v, h.sub⟩
theorem Step.drew {w w1 : World} {b : Nat} {a a1 : MA} (h : Step w b a w1 a1) : Step w b a w1.drew a1 := ⟨h.chg.drew, h.sub⟩
theorem Step.many {w w1 : World} {b : Nat} {a a1 : MA} (h : Step w b a w1 a1) (n : Nat) : Step w b a (w1.drewN n) a1 := ⟨h.chg.many n, h.sub⟩
/-- A block that is none of the member's, and was there, is none of them later. -/
theorem Step.out {w w' : World} {b : Nat} {a a' : MA} (h : Step w b a w' a') {F : Nat} (hF : F < w.heap.size) (hn : F ∉ foot b a) : F ∉ foot b a' := fun hc => by
  rcases h.sub F hc with h1 | h1
  · exact hn h1
  · omega
theorem Step.keep {w w' : World} {b : Nat} {a a' : MA} (h : Step w b a w' a') {F : Nat} {o : Obj} (hF : w.heap[F]? = some o) (hn : F ∉ foot b a) : w'.heap[F]? = some o := h.chg.keep hF hn
theorem MAt.new {w : World} {b : Nat} {a : MA} {m : Mb} (h : MAt w b a m) {F : Nat} (hF : w.heap.size ≤ F) : F ∉ foot b a := fun hc => by have := h.lt F hc; omega
/-! ### Messages -/
def Ms.cells (x : Ms) (a : Option Addr) (cap : Nat) : List Value := [.int .i64 x.kind, .int .i64 x.frm, .int .i64 x.dst, .int .i64 x.term, .int .i64 x.index, .int .i64 x.lterm, .int .i64 x.commit, .bool x.yes, .slice a x.ents.length cap]
abbrev Ms.val (x : Ms) (a : Option Addr) (cap : Nat) : Value := .agg #[.int .i64 x.kind, .int .i64 x.frm, .int .i64 x.dst, .int .i64 x.term, .int .i64 x.index, .int .i64 x.lterm, .int .i64 x.commit, .bool x.yes, .slice a x.ents.length cap]
def msV : List Ms → List (Option Addr × Nat) → List Value
  | [], _ => []
  | x :: xs, sl => x.cells (sl.headD (none, 0)).1 (sl.headD (none, 0)).2 ++ msV xs sl.tail
theorem msV_length (ms : List Ms) (sl : List (Option Addr × Nat)) : (msV ms sl).length = ms.length * 9 := by
  induction ms generalizing sl with
  | nil => rfl
  | cons m ms ih => rw [msV, List.length_append, ih, List.length_cons]; simp only [Ms.cells, List.length_cons, List.length_nil]; omega
theorem msV_snoc {ms : List Ms} {sl : List (Option Addr × Nat)} (h : sl.length = ms.length) (x : Ms) (s : Option Addr × Nat) : msV (ms ++ [x]) (sl ++ [s]) = msV ms sl ++ x.cells s.1 s.2 := by
  induction ms generalizing sl with
  | nil =>
    obtain rfl := List.eq_nil_of_length_eq_zero h
    simp [msV]
  | cons m ms ih =>
    cases sl with
    | nil => simp at h
    | cons t sl =>
      simp only [List.length_cons, Nat.add_right_cancel_iff] at h
      simp only [List.cons_append, msV, List.headD_cons, List.tail_cons]
      rw [ih h, List.append_assoc]
theorem msV_at {ms : List Ms} {sl : List (Option Addr × Nat)} {k j : Nat} (hk : k < ms.length) (hj : j < 9) : (msV ms sl)[k * 9 + j]? = ((ms[k]).cells (sl.getD k (none, 0)).1 (sl.getD k (none, 0)).2)[j]? := by
  induction ms generalizing sl k with
  | nil => simp at hk
  | cons m ms ih =>
    rw [msV]
    cases k with
    | zero =>
      rw [List.getElem?_append_left (by simp only [Ms.cells, List.length_cons, List.length_nil]; omega), Nat.zero_mul, Nat.zero_add]
      cases sl <;> rfl
    | succ k =>
      rw [List.getElem?_append_right (by simp only [Ms.cells, List.length_cons, List.length_nil]; omega), show (k + 1) * 9 + j - (m.cells (sl.headD (none, 0)).1 (sl.headD (none, 0)).2).length = k * 9 + j by simp only [Ms.cells, List.length_cons, List.length_nil]; omega, ih (by simpa using hk)]
      cases sl <;> rfl
theorem msC_one (x : Ms) (a : Option Addr) (cap : Nat) : ∀ u ∈ x.cells a cap, u.oneCell' = true := by
  intro u hu
  simp only [Ms.cells, List.mem_cons, List.not_mem_nil, or_false] at hu
  rcases hu with rfl | rfl | rfl | rfl | rfl | rfl | rfl | rfl | rfl <;> rfl
theorem msV_one (ms : List Ms) (sl : List (Option Addr × Nat)) : ∀ u ∈ msV ms sl, u.oneCell' = true := by
  induction ms generalizing sl with
  | nil => intro u hu; cases hu
  | cons m ms ih =>
    intro u hu
    rcases List.mem_append.1 hu with h | h
    · exact msC_one _ _ _ u h
    · exact ih _ u h
theorem elemM : Elem Tryz.prog 55 70 (.agg #[.int .i64 0, .int .i64 0, .int .i64 0, .int .i64 0, .int .i64 0, .int .i64 0, .int .i64 0, .bool false, .slice none 0 0]) 9 88 := ⟨Tryz.underlying55, by kernel_rfl, rfl, by omega⟩
/-- Messages that are a call's own: their row, and each one's entries. -/
structure MsAt (w : World) (base : Nat) (A : Option Addr) (c : Nat) (ms : List Ms) (sl : List (Option Addr × Nat)) : Prop where
  own : w.ownsRow base 70 9 (.slice A ms.length c) ms.length (msV ms sl)
  len : sl.length = ms.length
  ents : ∀ k, (hk : k < ms.length) → w.ownsRow base 82 7 (.slice (sl.getD k (none, 0)).1 (ms[k]).ents.length (sl.getD k (none, 0)).2) (ms[k]).ents.length (ensV (ms[k]).ents)
theorem MsAt.nil (w : World) (base : Nat) : MsAt w base none 0 [] [] := ⟨World.ownsRow_nil _ _ _ _, rfl, fun k hk => by simp at hk⟩
theorem MsAt.below {w w' : World} {base : Nat} {A : Option Addr} {c : Nat} {ms : List Ms} {sl : List (Option Addr × Nat)} (h : MsAt w base A c ms sl) (hb : Below w.heap.size w w') : MsAt w' base A c ms sl :=
  ⟨own_below h.own hb, h.len, fun k hk => own_below (h.ents k hk) hb⟩
theorem MsAt.base {w : World} {base base' : Nat} {A : Option Addr} {c : Nat} {ms : List Ms} {sl : List (Option Addr × Nat)} (h : MsAt w base A c ms sl) (hb : base' ≤ base) : MsAt w base' A c ms sl :=
  ⟨own_base h.own hb, h.len, fun k hk => own_base (h.ents k hk) hb⟩
/-- Messages are handed back, and nothing that was there has changed. -/
def RetMs (ms : List Ms) (w : World) (en : Ending) (w' : World) : Prop := ∃ A c sl, en = .returned (.slice A ms.length c) ∧ MsAt w' w.heap.size A c ms sl ∧ Below w.heap.size w w'
/-- A message is handed back, and nothing that was there has changed. -/
def RetM (x : Ms) (w : World) (en : Ending) (w' : World) : Prop := ∃ a c, en = .returned (x.val a c) ∧ w'.ownsRow w.heap.size 82 7 (.slice a x.ents.length c) x.ents.length (ensV x.ents) ∧ Below w.heap.size w w'
/-- A member has done something and says this. -/
def RetR (m' : Mb) (ms : List Ms) (b : Nat) (a : MA) (w : World) (en : Ending) (w' : World) : Prop :=
  ∃ a' B A c sl, en = .returned (.slice A ms.length c) ∧ MAt w' b a' m' ∧ Step w b a w' a' ∧ w.heap.size ≤ B ∧ (∀ x ∈ foot b a', x < B) ∧ MsAt w' B A c ms sl
/-- A member has done something. -/
def RetU (m' : Mb) (b : Nat) (a : MA) (v : Value) (w : World) (en : Ending) (w' : World) : Prop := ∃ a', en = .returned v ∧ MAt w' b a' m' ∧ Step w b a w' a'
end Go.Proofs.YthjdbmfobmnnlaaGreat

/-
  A member's role, ballot, what is settled, its last entry, its log, what it says.
-/
namespace Go.Proofs.YthjdbmfobmnnlaaGreat
open Go.RowKit
set_option linter.unusedVariables false
/-- Nine cells written one by one. -/
abbrev set9 (w : World) (F : Nat) (x0 x1 x2 x3 x4 x5 x6 x7 x8 : Value) : World := ((((((((w.setCell ⟨F, 0, none⟩ x0).setCell ⟨F, 1, none⟩ x1).setCell ⟨F, 2, none⟩ x2).setCell ⟨F, 3, none⟩ x3).setCell ⟨F, 4, none⟩ x4).setCell ⟨F, 5, none⟩ x5).setCell ⟨F, 6, none⟩ x6).setCell ⟨F, 7, none⟩ x7).setCell ⟨F, 8, none⟩ x8
theorem set9_blk {w : World} {F : Nat} {y0 y1 y2 y3 y4 y5 y6 y7 y8 : Value} {t : TypeId} (h : w.heap[F]? = some (.cells #[y0, y1, y2, y3, y4, y5, y6, y7, y8] t)) (x0 x1 x2 x3 x4 x5 x6 x7 x8 : Value) : (set9 w F x0 x1 x2 x3 x4 x5 x6 x7 x8).heap[F]? = some (.cells #[x0, x1, x2, x3, x4, x5, x6, x7, x8] t) := by
  have h0 : (w.setCell ⟨F, 0, none⟩ x0).heap[F]? = some (.cells #[x0, y1, y2, y3, y4, y5, y6, y7, y8] t) := blk_set h x0
  have h1 : ((w.setCell ⟨F, 0, none⟩ x0).setCell ⟨F, 1, none⟩ x1).heap[F]? = some (.cells #[x0, x1, y2, y3, y4, y5, y6, y7, y8] t) := blk_set h0 x1
  have h2 : (((w.setCell ⟨F, 0, none⟩ x0).setCell ⟨F, 1, none⟩ x1).setCell ⟨F, 2, none⟩ x2).heap[F]? = some (.cells #[x0, x1, x2, y3, y4, y5, y6, y7, y8] t) := blk_set h1 x2
  have h3 : ((((w.setCell ⟨F, 0, none⟩ x0).setCell ⟨F, 1, none⟩ x1).setCell ⟨F, 2, none⟩ x2).setCell ⟨F, 3, none⟩ x3).heap[F]? = some (.cells #[x0, x1, x2, x3, y4, y5, y6, y7, y8] t) := blk_set h2 x3
  have h4 : (((((w.setCell ⟨F, 0, none⟩ x0).setCell ⟨F, 1, none⟩ x1).setCell ⟨F, 2, none⟩ x2).setCell ⟨F, 3, none⟩ x3).setCell ⟨F, 4, none⟩ x4).heap[F]? = some (.cells #[x0, x1, x2, x3, x4, y5, y6, y7, y8] t) := blk_set h3 x4
  have h5 : ((((((w.setCell ⟨F, 0, none⟩ x0).setCell ⟨F, 1, none⟩ x1).setCell ⟨F, 2, none⟩ x2).setCell ⟨F, 3, none⟩ x3).setCell ⟨F, 4, none⟩ x4).setCell ⟨F, 5, none⟩ x5).heap[F]? = some (.cells #[x0, x1, x2, x3, x4, x5, y6, y7, y8] t) := blk_set h4 x5
  have h6 : (((((((w.setCell ⟨F, 0, none⟩ x0).setCell ⟨F, 1, none⟩ x1).setCell ⟨F, 2, none⟩ x2).setCell ⟨F, 3, none⟩ x3).setCell ⟨F, 4, none⟩ x4).setCell ⟨F, 5, none⟩ x5).setCell ⟨F, 6, none⟩ x6).heap[F]? = some (.cells #[x0, x1, x2, x3, x4, x5, x6, y7, y8] t) := blk_set h5 x6
  have h7 : ((((((((w.setCell ⟨F, 0, none⟩ x0).setCell ⟨F, 1, none⟩ x1).setCell ⟨F, 2, none⟩ x2).setCell ⟨F, 3, none⟩ x3).setCell ⟨F, 4, none⟩ x4).setCell ⟨F, 5, none⟩ x5).setCell ⟨F, 6, none⟩ x6).setCell ⟨F, 7, none⟩ x7).heap[F]? = some (.cells #[x0, x1, x2, x3, x4, x5, x6, x7, y8] t) := blk_set h6 x7
  have h8 : (((((((((w.setCell ⟨F, 0, none⟩ x0).setCell ⟨F, 1, none⟩ x1).setCell ⟨F, 2, none⟩ x2).setCell ⟨F, 3, none⟩ x3).setCell ⟨F, 4, none⟩ x4).setCell ⟨F, 5, none⟩ x5).setCell ⟨F, 6, none⟩ x6).setCell ⟨F, 7, none⟩ x7).setCell ⟨F, 8, none⟩ x8).heap[F]? = some (.cells #[x0, x1, x2, x3, x4, x5, x6, x7, x8] t) := blk_set h7 x8
  exact h8
theorem set9_below {B : Nat} {w0 w : World} {F : Nat} (h : Below B w0 w) (hF : B ≤ F) (x0 x1 x2 x3 x4 x5 x6 x7 x8 : Value) : Below B w0 (set9 w F x0 x1 x2 x3 x4 x5 x6 x7 x8) :=
  ((((((((h.setCell (p := ⟨F, 0, none⟩) hF x0).setCell (p := ⟨F, 1, none⟩) hF x1).setCell (p := ⟨F, 2, none⟩) hF x2).setCell (p := ⟨F, 3, none⟩) hF x3).setCell (p := ⟨F, 4, none⟩) hF x4).setCell (p := ⟨F, 5, none⟩) hF x5).setCell (p := ⟨F, 6, none⟩) hF x6).setCell (p := ⟨F, 7, none⟩) hF x7).setCell (p := ⟨F, 8, none⟩) hF x8
theorem set9_far {w : World} {F G : Nat} {o : Obj} (h : w.heap[F]? = some o) (hne : F ≠ G) (x0 x1 x2 x3 x4 x5 x6 x7 x8 : Value) : (set9 w G x0 x1 x2 x3 x4 x5 x6 x7 x8).heap[F]? = some o :=
  blk_far (blk_far (blk_far (blk_far (blk_far (blk_far (blk_far (blk_far (blk_far h hne x0) hne x1) hne x2) hne x3) hne x4) hne x5) hne x6) hne x7) hne x8
theorem fro9 {w : World} {F : Nat} {cs : Array Value} {t : TypeId} (h : w.heap[F]? = some (.cells cs t)) : w.frozen? ⟨F, 0, none⟩ = false ∧ w.frozen? ⟨F, 1, none⟩ = false ∧ w.frozen? ⟨F, 2, none⟩ = false ∧ w.frozen? ⟨F, 3, none⟩ = false ∧ w.frozen? ⟨F, 4, none⟩ = false ∧ w.frozen? ⟨F, 5, none⟩ = false ∧ w.frozen? ⟨F, 6, none⟩ = false ∧ w.frozen? ⟨F, 7, none⟩ = false ∧ w.frozen? ⟨F, 8, none⟩ = false ∧ w.frozen? ⟨F, 9, none⟩ = false :=
  ⟨blk_frozen h 0, blk_frozen h 1, blk_frozen h 2, blk_frozen h 3, blk_frozen h 4, blk_frozen h 5, blk_frozen h 6, blk_frozen h 7, blk_frozen h 8, blk_frozen h 9⟩
section
variable {w : World} {b : Nat} {a : MA} {m : Mb}
theorem role_any (h : MAt w b a m) : Calls Tryz.prog 40 #[.pointer (some ⟨b, 0, none⟩)] w fun e w' => e = .returned (.int .i64 m.role) ∧ Below w.heap.size w w' := by
  obtain ⟨c0, c1, c2, c3, c4, c5, c6, c7, c8, c9, hlt⟩ := box10 h.blk
  go_enter Tryz.func40, Tryz.ntmps40
  go_wp2
  go_ret
  exact ⟨rfl, below0 _⟩
theorem settled_any (h : MAt w b a m) : Calls Tryz.prog 39 #[.pointer (some ⟨b, 0, none⟩)] w fun e w' => e = .returned (.int .i64 m.settled) ∧ Below w.heap.size w w' := by
  obtain ⟨c0, c1, c2, c3, c4, c5, c6, c7, c8, c9, hlt⟩ := box10 h.blk
  go_enter Tryz.func39, Tryz.ntmps39
  go_wp2
  go_ret
  exact ⟨rfl, below0 _⟩
theorem ballot_any (h : MAt w b a m) : Calls Tryz.prog 77 #[.pointer (some ⟨b, 0, none⟩)] w fun e w' => e = .returned (ballotV m.term m.vote) ∧ Below w.heap.size w w' := by
  obtain ⟨c0, c1, c2, c3, c4, c5, c6, c7, c8, c9, hlt⟩ := box10 h.blk
  go_enter Tryz.func77, Tryz.ntmps77
  go_wp2
  refine bodyPost_ret (v := ballotV m.term m.vote) (by simp [results, Tryz.results77, go_sem]) rfl ?_
  exact ⟨rfl, below1 _ _⟩
set_option maxHeartbeats 1600000 in
theorem mlast_any (h : MAt w b a m) : Calls Tryz.prog 114 #[.pointer (some ⟨b, 0, none⟩)] w fun e w' => e = .returned (.int .i64 (lastF 0 0 m.log).1) ∧ Below w.heap.size w w' := by
  obtain ⟨c0, c1, c2, c3, c4, c5, c6, c7, c8, c9, hlt⟩ := box10 h.blk
  have HL := Lib.hid (last_any 0 0 a.la a.lc m.log w (LogIn.of_own h.log))
  generalize lastF 0 0 m.log = L at HL ⊢
  obtain ⟨L1, L2⟩ := L
  go_enter Tryz.func114, Tryz.ntmps114
  go_wp2_with (go_at_call 9; refine HL.out.mono ?_; rintro e w1 ⟨rfl, hb1⟩)
  go_ret
  exact ⟨rfl, hb1⟩
set_option maxRecDepth 100000 in
set_option maxHeartbeats 3200000 in
theorem say_any (h : MAt w b a m) (kind k : Int) : Calls Tryz.prog 66 #[.pointer (some ⟨b, 0, none⟩), .int .i64 kind, .int .i64 k] w fun e w' => e = .returned ((m.say kind k).val none 0) ∧ Below w.heap.size w w' := by
  have hal := below1 w (.cells #[.int .i64 0, .int .i64 0, .int .i64 0, .int .i64 0, .int .i64 0, .int .i64 0, .int .i64 0, .bool false, .slice none 0 0] 70)
  obtain ⟨c0, c1, c2, c3, c4, c5, c6, c7, c8, c9, hlt⟩ := box10 (h.below hal).blk
  have g := blk_new w (.cells #[.int .i64 0, .int .i64 0, .int .i64 0, .int .i64 0, .int .i64 0, .int .i64 0, .int .i64 0, .bool false, .slice none 0 0] 70)
  go_enter Tryz.func66, Tryz.ntmps66
  go_wp2
  generalize w.alloc (.cells #[.int .i64 0, .int .i64 0, .int .i64 0, .int .i64 0, .int .i64 0, .int .i64 0, .int .i64 0, .bool false, .slice none 0 0] 70) = W0 at *
  obtain ⟨d0, d1, d2, d3, d4, d5, d6, d7, d8⟩ := box9 g
  have hglt := blk_lt g
  obtain ⟨e0, e1, e2, e3, e4, e5, e6, e7, e8, _⟩ := fro9 g
  go_still_tail 12, (by kernel_rfl)
  show wpList _ _ _ _ _ W0.drew
  go_wp2
  obtain ⟨k0, k1, k2, k3, k4, k5, k6, k7, k8⟩ := box9 (set9_blk g (.int .i64 kind) (.int .i64 m.id) (.int .i64 k) (.int .i64 m.term) (.int .i64 0) (.int .i64 0) (.int .i64 0) (.bool false) (.slice none 0 0))
  refine bodyPost_ret (v := (m.say kind k).val none 0) (by simp [results, Tryz.results66, go_sem, k0, k1, k2, k3, k4, k5, k6, k7, k8, Mb.say]) rfl ?_
  exact ⟨rfl, (set9_below hal (Nat.le_refl _) _ _ _ _ _ _ _ _ _).drew⟩
/-- A log of one's own. -/
def RetLogM (es : List En) (w : World) (en : Ending) (w' : World) : Prop := ∃ A c, en = .returned (logV 0 0 A es.length c) ∧ w'.ownsRow w.heap.size 82 7 (.slice A es.length c) es.length (ensV es) ∧ Below w.heap.size w w'
set_option maxHeartbeats 1600000 in
theorem mlog_any (h : MAt w b a m) (hl : m.log.length ≤ 64) : Calls Tryz.prog 38 #[.pointer (some ⟨b, 0, none⟩)] w (RetLogM m.log w) := by
  have hw0 := below2 w (.cells #[.int .i64 0, .int .i64 0, .slice none 0 0] 37) (.cells #[.int .i64 0, .int .i64 0, .slice a.la m.log.length a.lc] 37)
  have g0 := alloc2_fst w (.cells #[.int .i64 0, .int .i64 0, .slice none 0 0] 37) (.cells #[.int .i64 0, .int .i64 0, .slice a.la m.log.length a.lc] 37)
  have g1 := alloc2_snd w (.cells #[.int .i64 0, .int .i64 0, .slice none 0 0] 37) (.cells #[.int .i64 0, .int .i64 0, .slice a.la m.log.length a.lc] 37)
  obtain ⟨c0, c1, c2, c3, c4, c5, c6, c7, c8, c9, hlt⟩ := box10 h.blk
  have HC : Hid (∀ W, Below w.heap.size w W → Calls Tryz.prog 80 #[.slice a.la m.log.length a.lc] W (RetRow 82 7 m.log.length (ensV m.log) W)) := fun W hb => clone_any a.la a.lc m.log W ((LogIn.of_own h.log).below hb) (by omega)
  go_enter Tryz.func38, Tryz.ntmps38
  go_wp2_with (go_at_call 80; refine (HC.out _ hw0).mono ?_; rintro e w3 ⟨a3, c3, rfl, own3, hb3⟩; have G0 := blk_keep hb3 g0; have G1 := blk_keep hb3 g1; obtain ⟨x0, x1, x2, xf0, xf1, xf2, xlt⟩ := box3 G0; obtain ⟨y0, y1, y2, yf0, yf1, yf2, ylt⟩ := box3 G1)
  have hs1 := blk_lt G1
  obtain ⟨q0, q1, q2, _⟩ := box3 (set3_blk (blk_far (i := 2) G0 (show w.heap.size ≠ w.heap.size + 1 by omega) (.slice a3 m.log.length c3)) (.int .i64 0) (.int .i64 0) (.slice a3 m.log.length c3))
  refine bodyPost_ret (v := logV 0 0 a3 m.log.length c3) (by simp [results, Tryz.results38, go_sem, q0, q1, q2]) rfl ?_
  have e2 : ((w.alloc (.cells #[.int .i64 0, .int .i64 0, .slice none 0 0] 37)).alloc (.cells #[.int .i64 0, .int .i64 0, .slice a.la m.log.length a.lc] 37)).heap.size = w.heap.size + 2 := by simp
  rw [e2] at own3
  exact ⟨a3, c3, rfl, own_base (own_set3 (ownsRow_setCell_below own3 (a := ⟨w.heap.size + 1, 2, none⟩) (by show w.heap.size + 1 < _; omega) _) (by omega) _ _ _) (by omega), set3_below ((hw0.trans (hb3.mono hw0.size)).setCell (p := ⟨w.heap.size + 1, 2, none⟩) (Nat.le_succ _) _) (Nat.le_refl _) _ _ _⟩
theorem VotesAt.size {w : World} {b : Nat} {vs : List Int} (h : VotesAt w b vs) : ∃ es clock, w.heap[b]? = some (.map es clock) ∧ es.size = vs.length := by
  obtain ⟨D, ⟨es, clock, hb, F, hs, rfl⟩, _, hs⟩ := h
  exact ⟨es, clock, hb, by rw [← hs]; simp [Maps.size, length_sorted]⟩
theorem won_any (h : MAt w b a m) (hok : MbOk m) : Calls Tryz.prog 62 #[.pointer (some ⟨b, 0, none⟩)] w fun e w' => e = .returned (.bool m.won) ∧ Below w.heap.size w w' := by
  obtain ⟨c0, c1, c2, c3, c4, c5, c6, c7, c8, c9, hlt⟩ := box10 h.blk
  have n1 := hok.n1
  have n16 := hok.n16
  have HM : Hid (∀ W, Calls Tryz.prog 113 #[.int .i64 (m.prog.length : Nat)] W fun e w' => e = .returned (.int .i64 ((majN m.prog.length : Nat) : Int)) ∧ W = w') := fun W => by
    have := majority_any (m.prog.length : Int) (by omega) (by omega) W
    rw [if_neg (by omega)] at this
    unfold majN
    rwa [show ((m.prog.length / 2 + 1 : Nat) : Int) = (m.prog.length : Int) / 2 + 1 by omega]
  have HV : Hid (∀ n, Sem.run Tryz.prog (Builtin.len_ #[123] 3 #[.map (some a.vb)]) (w.drewN n) = .ok (.int .i64 (m.votes.length : Nat)) (w.drewN n)) := fun n => VotesAt.len (VotesAt.keep (w' := w.drewN n) h.votes rfl) 3
  unfold Mb.won
  generalize majN m.prog.length = q at HM ⊢
  generalize m.votes.length = k at HV ⊢
  go_enter Tryz.func62, Tryz.ntmps62
  go_wp2
  go_quiet ((first | (rw [HV.out]; exact ⟨rfl, rfl⟩) | (go_at_call 113; exact Calls.quiet_of_same ((HM.out _).mono fun _ _ h => ⟨h.1, h.2.symm⟩))))
  go_wp2
  go_ret
  exact ⟨rfl, Below.many (below0 _) _⟩
end
end Go.Proofs.YthjdbmfobmnnlaaGreat
