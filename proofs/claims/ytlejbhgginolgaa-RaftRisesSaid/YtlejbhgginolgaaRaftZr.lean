/-
  A member rises: what happens to it among the arguments, what becomes of it, and the law.
-/
import Derived.Test.YtlejbhgginolgaaOpenLogs
import Derived.Test.YtlejbhgginolgaaBoxes
import Derived.Test.YtlejbhgginolgaaRaftMath
import Derived.Test.YtlejbhgginolgaaRaftJ
import Derived.Test.YtlejbhgginolgaaRaftR
import Derived.Test.YtlejbhgginolgaaRaftT
import Derived.Test.YtlejbhgginolgaaSliceG
namespace Go.Proofs.Ytlejbhgginolgaa
open Go.RowKit
section
open Go.ChangeShapes Go.WideShapes Go.Deep Go.Joins
set_option linter.unusedVariables false
abbrev mgMs (m : Mg) : Ms := ⟨m.1, m.2.1, m.2.2.1, m.2.2.2.1, m.2.2.2.2.1, m.2.2.2.2.2.1, m.2.2.2.2.2.2.1, m.2.2.2.2.2.2.2.1, m.2.2.2.2.2.2.2.2⟩
/-- What happens to a member: its kind, a message, a command. -/
abbrev EvR := Int × Mg × Cm
def evrC (e : EvR) (a : Option Addr) (cap : Nat) : List Value := .int .i64 e.1 :: (msgC e.2.1 a cap ++ [.int .i64 e.2.2.1, .int .i64 e.2.2.2.1, .int .i64 e.2.2.2.2.1, .int .i64 e.2.2.2.2.2.1, .int .i64 e.2.2.2.2.2.2.1, .int .i64 e.2.2.2.2.2.2.2])
/-- What happens, as it came in. -/
structure EvrsIn (w : World) (a : Option Addr) (cap : Nat) (ms : List EvR) : Prop where
  at_ : ∀ i m, ms[i]? = some m → ∃ b off am cm, a = some ⟨b, off, none⟩ ∧ b < w.heap.size ∧ (∀ j u, (evrC m am cm)[j]? = some u → w.cell? ⟨b, off + (i * 16 + j), none⟩ = some u) ∧ LogIn w am cm m.2.1.2.2.2.2.2.2.2.2 ∧ MgWf m.2.1
  cap : ms.length ≤ cap
  none_ : a = none → ms.length = 0
  max : ms.length ≤ maxLen
theorem EvrsIn.below {w w' : World} {a : Option Addr} {cap : Nat} {ms : List EvR} (h : EvrsIn w a cap ms) (hb : Below w.heap.size w w') : EvrsIn w' a cap ms :=
  ⟨fun i m hi => by
    obtain ⟨b, off, am, cm, h1, h2, h3, h4, h5⟩ := h.at_ i m hi
    exact ⟨b, off, am, cm, h1, Nat.lt_of_lt_of_le h2 hb.size, fun j u hj => ((bcell hb).1 _ _ h2).trans (h3 j u hj), h4.below hb, h5⟩, h.cap, h.none_, h.max⟩
set_option maxRecDepth 100000 in
theorem evr_cells {w : World} {a : Option Addr} {cap : Nat} {ms : List EvR} (h : EvrsIn w a cap ms) {k : Nat} (hk : k < ms.length) :
    ∃ b off am cm, a = some ⟨b, off, none⟩ ∧ b < w.heap.size ∧ (w.cell? ⟨b, off + k * 16, none⟩ = some (.int .i64 (ms[k]).1) ∧ w.cell? ⟨b, off + k * 16 + 1, none⟩ = some (.int .i64 (ms[k]).2.1.1) ∧ w.cell? ⟨b, off + k * 16 + 2, none⟩ = some (.int .i64 (ms[k]).2.1.2.1) ∧
      w.cell? ⟨b, off + k * 16 + 3, none⟩ = some (.int .i64 (ms[k]).2.1.2.2.1) ∧ w.cell? ⟨b, off + k * 16 + 4, none⟩ = some (.int .i64 (ms[k]).2.1.2.2.2.1) ∧ w.cell? ⟨b, off + k * 16 + 5, none⟩ = some (.int .i64 (ms[k]).2.1.2.2.2.2.1) ∧ w.cell? ⟨b, off + k * 16 + 6, none⟩ = some (.int .i64 (ms[k]).2.1.2.2.2.2.2.1) ∧
      w.cell? ⟨b, off + k * 16 + 7, none⟩ = some (.int .i64 (ms[k]).2.1.2.2.2.2.2.2.1) ∧ w.cell? ⟨b, off + k * 16 + 8, none⟩ = some (.bool (ms[k]).2.1.2.2.2.2.2.2.2.1) ∧ w.cell? ⟨b, off + k * 16 + 9, none⟩ = some (.slice am (ms[k]).2.1.2.2.2.2.2.2.2.2.length cm)) ∧
      (w.cell? ⟨b, off + k * 16 + 10, none⟩ = some (.int .i64 (ms[k]).2.2.1) ∧ w.cell? ⟨b, off + k * 16 + 11, none⟩ = some (.int .i64 (ms[k]).2.2.2.1) ∧ w.cell? ⟨b, off + k * 16 + 12, none⟩ = some (.int .i64 (ms[k]).2.2.2.2.1) ∧ w.cell? ⟨b, off + k * 16 + 13, none⟩ = some (.int .i64 (ms[k]).2.2.2.2.2.1) ∧ w.cell? ⟨b, off + k * 16 + 14, none⟩ = some (.int .i64 (ms[k]).2.2.2.2.2.2.1) ∧ w.cell? ⟨b, off + k * 16 + 15, none⟩ = some (.int .i64 (ms[k]).2.2.2.2.2.2.2)) ∧
      LogIn w am cm (ms[k]).2.1.2.2.2.2.2.2.2.2 ∧ MgWf (ms[k]).2.1 := by
  obtain ⟨b, off, am, cm, h1, h2, h3, h4, h5⟩ := h.at_ k _ (List.getElem?_eq_getElem hk)
  have e : ∀ j, off + k * 16 + j = off + (k * 16 + j) := fun j => by omega
  refine ⟨b, off, am, cm, h1, h2, ⟨h3 0 _ rfl, ?_, ?_, ?_, ?_, ?_, ?_, ?_, ?_, ?_⟩, ⟨?_, ?_, ?_, ?_, ?_, ?_⟩, h4, h5⟩
  · rw [e 1]; exact h3 1 _ rfl
  · rw [e 2]; exact h3 2 _ rfl
  · rw [e 3]; exact h3 3 _ rfl
  · rw [e 4]; exact h3 4 _ rfl
  · rw [e 5]; exact h3 5 _ rfl
  · rw [e 6]; exact h3 6 _ rfl
  · rw [e 7]; exact h3 7 _ rfl
  · rw [e 8]; exact h3 8 _ rfl
  · rw [e 9]; exact h3 9 _ rfl
  · rw [e 10]; exact h3 10 _ rfl
  · rw [e 11]; exact h3 11 _ rfl
  · rw [e 12]; exact h3 12 _ rfl
  · rw [e 13]; exact h3 13 _ rfl
  · rw [e 14]; exact h3 14 _ rfl
  · rw [e 15]; exact h3 15 _ rfl
section
variable {H : Type} {enc : TypeId × Value → H} {w : World}
theorem cells_evr : Try.prog.cellsOf 55 = 16 := by kernel_rfl
theorem list16 {cs : List Value} (h : cs.length = 16) : ∃ c0 c1 c2 c3 c4 c5 c6 c7 c8 c9 d0 d1 d2 d3 d4 d5, cs = [c0, c1, c2, c3, c4, c5, c6, c7, c8, c9, d0, d1, d2, d3, d4, d5] := by
  match cs, h with
  | [c0, c1, c2, c3, c4, c5, c6, c7, c8, c9, d0, d1, d2, d3, d4, d5], _ => exact ⟨c0, c1, c2, c3, c4, c5, c6, c7, c8, c9, d0, d1, d2, d3, d4, d5, rfl⟩
set_option maxRecDepth 100000 in
theorem open_evr {fuel : Nat} {cs : List Value} {y : DataW H × List MemPlace} (h : DataW.trod enc Try.prog w 0 (fun _ => true) true fuel 55 cs = some y) :
    ∃ (e : EvR) (a : Option Addr) (cap : Nat), cs = evrC e a cap ∧ LogIn w a cap e.2.1.2.2.2.2.2.2.2.2 ∧ MgWf e.2.1 := by
  obtain ⟨xs, n, _, _, hl, hx, hf⟩ := DataW.trod_struct Try.underlying55 h
  rw [cells_evr] at hl
  obtain ⟨c0, c1, c2, c3, c4, c5, c6, c7, c8, c9, d0, d1, d2, d3, d4, d5, rfl⟩ := list16 hl
  obtain ⟨k0, rfl, _⟩ := int_cell _ (i := 0) (c := c0) (hf 0 _ rfl) (by rw [hx]; decide) rfl rfl rfl
  have h1 : DataW.trod enc Try.prog w 0 (fun _ => true) true n 37 (([Value.int .i64 k0, c1, c2, c3, c4, c5, c6, c7, c8, c9, d0, d1, d2, d3, d4, d5].drop 1).take (Try.prog.cellsOf 37)) = xs[1]? := hf 1 _ rfl
  rw [List.getElem?_eq_getElem (show 1 < xs.length by rw [hx]; decide), cells_msg] at h1
  obtain ⟨m, a, cap, hm, hle, hw⟩ := open_msg h1
  have h2 : DataW.trod enc Try.prog w 0 (fun _ => true) true n 45 (([Value.int .i64 k0, c1, c2, c3, c4, c5, c6, c7, c8, c9, d0, d1, d2, d3, d4, d5].drop 10).take (Try.prog.cellsOf 45)) = xs[2]? := hf 2 _ rfl
  rw [List.getElem?_eq_getElem (show 2 < xs.length by rw [hx]; decide), cells_cmd] at h2
  obtain ⟨c, hc⟩ := open_cmd h2
  simp at hc
  obtain ⟨rfl, rfl, rfl, rfl, rfl, rfl⟩ := hc
  refine ⟨(k0, m, c), a, cap, ?_, hle, hw⟩
  show _ = Value.int .i64 k0 :: (msgC m a cap ++ _)
  rw [← hm]
  rfl
set_option maxRecDepth 100000 in
theorem open_evrs_arg {r : Reach} {b0 : Nat} {v : Value} {d : DataW H} {p : List MemPlace} (hv : Value.okWide Try.prog w r b0 51 v) (h : DataW.Trod enc Try.prog w 0 (fun _ => true) true 51 v d p) :
    ∃ a cap ms, v = .slice a ms.length cap ∧ EvrsIn w a cap ms := by
  obtain ⟨a, l, c, rfl⟩ := okWide_slice Try.underlying51 hv
  obtain ⟨fuel, hf⟩ := h
  rcases open_slice Try.underlying51 (show DataW.trod enc Try.prog w 0 (fun _ => true) true fuel 51 [.slice a l c] = some (d, p) by simpa [Value.cells] using hf) with ⟨h1, _⟩ | ⟨a', len, cap, m, n, D, Pl, hcs, hb, hl, hm, hmm, hx, hi⟩
  · simp at h1
    obtain ⟨rfl, rfl, rfl⟩ := h1
    exact ⟨none, 0, [], rfl, ⟨fun i m h => by simp at h, Nat.le_refl _, fun _ => rfl, Nat.zero_le _⟩⟩
  · simp at hcs
    obtain ⟨rfl, rfl, rfl⟩ := hcs
    obtain ⟨ms, hel, hes⟩ := list_choose (R := fun i (m : EvR) => ∃ am cm, (∀ j u, (evrC m am cm)[j]? = some u → w.cell? (a'.add (i * 16 + j)) = some u) ∧ LogIn w am cm m.2.1.2.2.2.2.2.2.2.2 ∧ MgWf m.2.1) l fun i hil => by
      obtain ⟨cs', hc, ht⟩ := hi i (by rw [hmm]; simp; omega)
      rw [cells_evr] at hc
      obtain ⟨m, am, cm, rfl, h1, h2⟩ := open_evr ht
      obtain ⟨_, _, hat⟩ := World.cells?_some hc
      refine ⟨m, am, cm, fun j u hj => ?_, h1, h2⟩
      have hj7 : j < 16 := by
        rcases Nat.lt_or_ge j 16 with h | h
        · exact h
        · rw [List.getElem?_eq_none (by exact h)] at hj; cases hj
      rw [← Go.Deep.add_add, hat j hj7, hj]
    subst hel
    refine ⟨some a', c, ms, rfl, ⟨fun i m him => ?_, hl, (fun h => by cases h), Nat.le_trans hl hm⟩⟩
    obtain ⟨am, cm, h1, h2, h3⟩ := hes i m him
    obtain ⟨b, off, spot⟩ := a'
    have h0 := h1 0 _ rfl
    have hspot : spot = none := by
      have hlt0 : 0 < ms.length := Nat.lt_of_le_of_lt (Nat.zero_le i) (List.getElem?_eq_some_iff.1 him).1
      obtain ⟨_, _, z1, _⟩ := hes 0 _ (List.getElem?_eq_getElem hlt0)
      simpa [Addr.add] using World.cell?_spot (z1 0 _ rfl)
    subst hspot
    have hadd : ∀ j, (⟨b, off, none⟩ : Addr).add j = ⟨b, off + j, none⟩ := fun j => by unfold Addr.add; split <;> simp_all
    rw [hadd] at h0
    exact ⟨b, off, am, cm, rfl, block_lt_of_cell h0, fun j u hj => by have := h1 j u hj; rwa [hadd] at this, h2, h3⟩
end
end
set_option linter.unusedVariables false
/-- What becomes of a member when something happens to it. -/
def Mb.does (m : Mb) (k : Int) (x : Ms) (c : Cm) : Mb := if k = 0 then (m.hear x).1 else if k = 1 then m.timeout.1 else if k = 2 then m.beat.1 else (m.propose c).1
theorem MbOk.does {m : Mb} (h : MbOk m) (k : Int) (x : Ms) (c : Cm) : MbOk (m.does k x c) := by
  unfold Mb.does
  split
  · exact h.hear x
  · split
    · exact h.timeout
    · split
      · exact h
      · exact h.propose c
/-- A member rises: its term does not fall, nor what is settled; its vote stays within a term; a leader's log grows. -/
structure Rises (m m' : Mb) : Prop where
  term : m.term ≤ m'.term
  vote : m'.term = m.term → m.vote ≠ 0 → m'.vote = m.vote
  settled : m.settled ≤ m'.settled
  log : m.role = 2 → m'.role = 2 → m'.term = m.term → m.log.length ≤ m'.log.length ∧ m'.log.take m.log.length = m.log
  id : m'.id = m.id
  many : m'.prog.length = m.prog.length
theorem Rises.refl (m : Mb) : Rises m m := ⟨Int.le_refl _, fun _ _ => rfl, Int.le_refl _, fun _ _ _ => ⟨Nat.le_refl _, List.take_length⟩, rfl, rfl⟩
theorem put_facts (m : Mb) (c : Cm) : (m.put c).id = m.id ∧ (m.put c).role = m.role ∧ (m.put c).term = m.term ∧ (m.put c).vote = m.vote ∧ (m.put c).prog = m.prog ∧ (m.put c).settled = m.settled ∧ (m.log.length ≤ (m.put c).log.length ∧ (m.put c).log.take m.log.length = m.log) := by
  unfold Mb.put
  split
  · simp
  · simp
theorem settle_up {m : Mb} (h : MbOk m) : m.settled ≤ m.settle.settled := by
  show m.settled ≤ commitF 0 0 m.log _ m.term m.settled
  rcases commitF_mem h.log (m.prog.map (·.1)) m.term m.settled with h1 | h1 <;> omega
theorem lead_facts {m : Mb} (h : MbOk m) (ht : 1 ≤ m.term) : m.lead.id = m.id ∧ m.lead.term = m.term ∧ m.lead.vote = m.vote ∧ m.settled ≤ m.lead.settled ∧ m.lead.prog.length = m.prog.length := by
  obtain ⟨p1, p2, p3, p4, p5, p6, _⟩ := put_facts m.clear (0, 0, 0, 0, 0, 0)
  have hk := (((h.clear ht).put ht (0, 0, 0, 0, 0, 0))).mark
  refine ⟨p1, p3, p4, ?_, ?_⟩
  · have h1 := settle_up hk
    have h2 : ((m.clear.put (0, 0, 0, 0, 0, 0)).mark).settled = m.settled := p6
    rw [h2] at h1
    exact h1
  · show ((m.clear.put (0, 0, 0, 0, 0, 0)).prog.set _ _).length = _
    rw [List.length_set, p5]
    simp [Mb.clear]
theorem took_facts {m : Mb} (h : MbOk m) (ht : 1 ≤ m.term) (c : Cm) : Rises m (m.took c) := by
  obtain ⟨p1, p2, p3, p4, p5, p6, p7⟩ := put_facts m c
  have hk := (h.put ht c).mark
  refine ⟨?_, fun _ _ => p4, ?_, fun _ _ _ => p7, p1, ?_⟩
  · show m.term ≤ (m.put c).term
    rw [p3]
    exact Int.le_refl _
  · have h1 := settle_up hk
    have h2 : ((m.put c).mark).settled = m.settled := p6
    rw [h2] at h1
    exact h1
  · show ((m.put c).prog.set _ _).length = _
    rw [List.length_set, p5]
theorem rises_timeout {m : Mb} (h : MbOk m) : Rises m m.timeout.1 := by
  have h1 := mayV_true h.ballot
  unfold Mb.timeout
  split
  · exact .refl m
  · rename_i hn
    have hs := h.stand (by omega)
    split
    · obtain ⟨q1, q2, q3, q4, q5⟩ := lead_facts hs (by show 1 ≤ m.term + 1; omega)
      have e2 : m.stand.lead.term = m.term + 1 := q2
      have e4 : m.settled ≤ m.stand.lead.settled := q4
      exact ⟨by show m.term ≤ m.stand.lead.term; omega, fun e _ => by have : m.stand.lead.term = m.term := e; omega, e4, fun e _ _ => by omega, q1, q5⟩
    · have e2 : m.stand.term = m.term + 1 := rfl
      exact ⟨by show m.term ≤ m.stand.term; omega, fun e _ => by have : m.stand.term = m.term := e; omega, Int.le_refl _, fun e _ _ => by omega, rfl, rfl⟩
theorem rises_propose {m : Mb} (h : MbOk m) (c : Cm) : Rises m (m.propose c).1 := by
  unfold Mb.propose
  split
  · exact .refl m
  · split
    · exact .refl m
    · rename_i h1 _
      exact took_facts h (h.live (by omega)) c
/-- Within a term: nothing of the ballot changes but a vote that was not given, and so on. -/
theorem rises_asked {m : Mb} (h : MbOk m) (x : Ms) (hx : x.term ≤ m.term) : Rises m (m.asked x).1 := by
  have hg := grant_ok h.ballot 0 0 m.log x.frm x.term x.index x.lterm
  refine ⟨hg.2, fun _ hv => ?_, Int.le_refl _, fun _ _ _ => ⟨Nat.le_refl _, List.take_length⟩, rfl, rfl⟩
  show (grantF m.term m.vote 0 0 m.log x.frm x.term x.index x.lterm).2.1 = m.vote
  have hs : seeF m.term m.vote x.term = (m.term, m.vote) := by unfold seeF; rw [if_neg (by omega)]
  unfold grantF
  rw [hs]
  simp only
  split
  · rename_i hc
    rcases hc.2.2.1 with h1 | h1
    · exact (hv h1).elim
    · exact h1.symm
  · rfl
theorem rises_voted {m : Mb} (h : MbOk m) (x : Ms) (hx : 1 ≤ x.frm ∧ x.frm ≤ 16) : Rises m (m.voted x).1 := by
  unfold Mb.voted
  split
  · exact .refl m
  · rename_i hn
    have ht : 1 ≤ m.term := h.live (by omega)
    split
    · obtain ⟨q1, q2, q3, q4, q5⟩ := lead_facts (h.counted x hx) ht
      exact ⟨by show m.term ≤ (m.counted x).lead.term; rw [q2]; exact Int.le_refl _, fun _ _ => q3, q4, fun e _ _ => by omega, q1, q5⟩
    · exact ⟨Int.le_refl _, fun _ _ => rfl, Int.le_refl _, fun _ _ _ => ⟨Nat.le_refl _, List.take_length⟩, rfl, rfl⟩
theorem rises_add {m : Mb} (x : Ms) : Rises m (m.add x).1 := by
  unfold Mb.add
  split
  · exact .refl m
  · split
    · exact .refl m
    · rename_i hr
      split
      · exact ⟨Int.le_refl _, fun _ _ => rfl, Int.le_refl _, fun e _ _ => (hr e).elim, rfl, rfl⟩
      · exact ⟨Int.le_refl _, fun _ _ => rfl, by show m.settled ≤ max m.settled _; omega, fun e _ _ => (hr e).elim, rfl, rfl⟩
theorem rises_added {m : Mb} (h : MbOk m) (x : Ms) : Rises m (m.added x).1 := by
  have hl := h.len64
  have hlf := h.lastF
  have hm : 0 ≤ x.index → x.index ≤ m.log.length → Rises m (m.matched x) := fun h0 h1 => by
    have hk := h.setPr x.frm (max (m.prAt x.frm).1 x.index, max (m.prAt x.frm).1 x.index + 1) (by have := h.prAt x.frm; simp only; omega)
    have h2 := settle_up hk
    exact ⟨Int.le_refl _, fun _ _ => rfl, h2, fun _ _ _ => ⟨Nat.le_refl _, List.take_length⟩, rfl, by show (m.prog.set _ _).length = _; rw [List.length_set]⟩
  unfold Mb.added
  split
  · exact .refl m
  · split
    · exact ⟨Int.le_refl _, fun _ _ => rfl, Int.le_refl _, fun _ _ _ => ⟨Nat.le_refl _, List.take_length⟩, rfl, by show (m.prog.set _ _).length = _; rw [List.length_set]⟩
    · split
      · exact .refl m
      · rename_i h3
        rw [hlf] at h3 ⊢
        simp only at h3 ⊢
        split
        · exact hm (by omega) (by omega)
        · exact hm (by omega) (by omega)
theorem rises_hear {m : Mb} (h : MbOk m) (x : Ms) : Rises m (m.hear x).1 := by
  unfold Mb.hear
  split
  · rename_i hh
    unfold Mb.hears at hh
    rw [decide_eq_true_eq] at hh
    have hs := h.seen x (by omega)
    have hst : x.term ≤ (m.seen x).term := by
      unfold Mb.seen
      split
      · exact Int.le_refl _
      · omega
    have hfr : 1 ≤ x.frm ∧ x.frm ≤ 16 := by have := h.n16; omega
    have hr : Rises (m.seen x) ((m.seen x).acts x).1 := by
      unfold Mb.acts
      split
      · exact rises_asked hs x hst
      · split
        · exact rises_voted hs x hfr
        · split
          · exact rises_add x
          · exact rises_added hs x
    by_cases hlt : m.term < x.term
    · have he : m.seen x = { m with term := x.term, vote := 0, role := 0 } := if_pos hlt
      rw [he] at hr ⊢
      have h1 : x.term ≤ _ := hr.term
      exact ⟨by omega, fun e _ => by omega, hr.settled, fun _ _ e => by omega, hr.id, hr.many⟩
    · have he : m.seen x = m := if_neg hlt
      rw [he] at hr ⊢
      exact hr
  · exact .refl m
theorem rises_does {m : Mb} (h : MbOk m) (k : Int) (x : Ms) (c : Cm) : Rises m (m.does k x c) := by
  unfold Mb.does
  split
  · exact rises_hear h x
  · split
    · exact rises_timeout h
    · split
      · exact .refl m
      · exact rises_propose h c
set_option linter.unusedVariables false
/-- Whether there are few. -/
def RetFewR (ms : List EvR) (w : World) (en : Ending) (w' : World) : Prop := ∃ q : Bool, en = .returned (.bool q) ∧ (q = true → ms.length ≤ 60 ∧ ∀ e ∈ ms, e.2.1.2.2.2.2.2.2.2.2.length ≤ 20) ∧ w' = w
set_option maxHeartbeats 3200000 in
theorem fewR_any (a : Option Addr) (cap : Nat) (ms : List EvR) (w : World) (h : EvrsIn w a cap ms) :
    Calls Try.prog 18 #[.slice a ms.length cap] w (RetFewR ms w) := by
  have H := Lib.hid h
  have hmx := h.max
  clear h
  by_cases h30 : (60 : Int) < (ms.length : Int)
  · go_enter Try.func18, Try.ntmps18
    go_wp2
    go_ret
    exact ⟨false, rfl, (fun h => by cases h), rfl⟩
  have H30 : Hid (ms.length ≤ 60) := by rw [Hid]; omega
  clear hmx
  go_enter Try.func18, Try.ntmps18
  go_wp2
  go_loopw [3] (fun i wr => ∃ k : Nat, k ≤ ms.length ∧ i = .int .i64 k ∧ wr = w ∧ Hid (∀ j (hj : j < ms.length), j < k → (ms[j]).2.1.2.2.2.2.2.2.2.2.length ≤ 20)) (fun i _ => ms.length - (intOf i).toNat)
  case atStart => exact ⟨0, by omega, rfl, rfl, fun j _ hj => by omega⟩
  case round =>
    obtain ⟨k, hk, rfl, rfl, HP⟩ := hrel
    have hk0 : (0 : Int) ≤ (k : Int) := by omega
    by_cases hlt : k < ms.length
    · obtain ⟨b, off, am, cm, rfl, hbl, ⟨c0, c1, c2, c3, c4, c5, c6, c7, c8, c9⟩, _, _, _⟩ := evr_cells H.out hlt
      have hk1 : (k : Int) < (ms.length : Int) := by omega
      by_cases h70 : (20 : Int) < ((ms[k]'hlt).2.1.2.2.2.2.2.2.2.2.length : Int)
      · generalize (ms[k]'hlt) = x at *
        go_wp2
        go_ret
        exact ⟨false, rfl, (fun h => by cases h), rfl⟩
      · have HQ : Hid (∀ j (hj : j < ms.length), j < k + 1 → (ms[j]).2.1.2.2.2.2.2.2.2.2.length ≤ 20) := fun j hj hjk => by
          by_cases e : j = k
          · subst e; omega
          · exact HP.out j hj (by omega)
        generalize (ms[k]'hlt) = x at *
        go_wp2
        go_roundw
        case rel => exact ⟨k + 1, by omega, by go_num, trivial, HQ⟩
        case measure => simp [intOf]; omega
    · have hk1 : ¬ (k : Int) < (ms.length : Int) := by omega
      have HQ : Hid (∀ e ∈ ms, e.2.1.2.2.2.2.2.2.2.2.length ≤ 20) := fun e he => by
        obtain ⟨j, hj, rfl⟩ := List.getElem_of_mem he
        exact HP.out j hj (by omega)
      clear HP
      go_wp2
      go_ret
      exact ⟨true, rfl, (fun _ => ⟨H30.out, HQ.out⟩), rfl⟩
/-- Something has happened to a member. -/
def RetD (m' : Mb) (b : Nat) (a : MA) (w : World) (en : Ending) (w' : World) : Prop := ∃ a' v, en = .returned v ∧ MAt w' b a' m' ∧ Step w b a w' a'
abbrev evrV (k : Int) (x : Mg) (am : Option Addr) (cm : Nat) (c : Cm) : Value := .agg #[.int .i64 k, .int .i64 x.1, .int .i64 x.2.1, .int .i64 x.2.2.1, .int .i64 x.2.2.2.1, .int .i64 x.2.2.2.2.1, .int .i64 x.2.2.2.2.2.1, .int .i64 x.2.2.2.2.2.2.1, .bool x.2.2.2.2.2.2.2.1, .slice am x.2.2.2.2.2.2.2.2.length cm, .int .i64 c.1, .int .i64 c.2.1, .int .i64 c.2.2.1, .int .i64 c.2.2.2.1, .int .i64 c.2.2.2.2.1, .int .i64 c.2.2.2.2.2]
set_option maxRecDepth 100000 in
set_option maxHeartbeats 6400000 in
theorem does_any (b : Nat) (a : MA) (m : Mb) (k : Int) (x : Mg) (am : Option Addr) (cm : Nat) (c : Cm) (w : World) (h : MAt w b a m) (hok : MbOk m) (hwf : MgWf x) (hl : LogIn w am cm x.2.2.2.2.2.2.2.2) (hsz : x.2.2.2.2.2.2.2.2.length ≤ 1000000) (hne : x.2.2.2.2.2.2.2.2.length ≠ 0 → ∀ y ∈ blkOf am, y ∉ foot b a) :
    Calls Try.prog 19 #[.pointer (some ⟨b, 0, none⟩), evrV k x am cm c] w (RetD (m.does k (mgMs x) c) b a w) := by
  have hal := below1 w (.cells #[.int .i64 k, .int .i64 x.1, .int .i64 x.2.1, .int .i64 x.2.2.1, .int .i64 x.2.2.2.1, .int .i64 x.2.2.2.2.1, .int .i64 x.2.2.2.2.2.1, .int .i64 x.2.2.2.2.2.2.1, .bool x.2.2.2.2.2.2.2.1, .slice am x.2.2.2.2.2.2.2.2.length cm, .int .i64 c.1, .int .i64 c.2.1, .int .i64 c.2.2.1, .int .i64 c.2.2.2.1, .int .i64 c.2.2.2.2.1, .int .i64 c.2.2.2.2.2] 55)
  have H1 := h.below hal
  have HH : Hid (Calls Try.prog 17 #[.pointer (some ⟨b, 0, none⟩), (mgMs x).val am cm] (w.alloc (.cells #[.int .i64 k, .int .i64 x.1, .int .i64 x.2.1, .int .i64 x.2.2.1, .int .i64 x.2.2.2.1, .int .i64 x.2.2.2.2.1, .int .i64 x.2.2.2.2.2.1, .int .i64 x.2.2.2.2.2.2.1, .bool x.2.2.2.2.2.2.2.1, .slice am x.2.2.2.2.2.2.2.2.length cm, .int .i64 c.1, .int .i64 c.2.1, .int .i64 c.2.2.1, .int .i64 c.2.2.2.1, .int .i64 c.2.2.2.2.1, .int .i64 c.2.2.2.2.2] 55)) (RetR (m.hear (mgMs x)).1 (m.hear (mgMs x)).2 b a _)) :=
    hear_any H1 hok (mgMs x) am cm hwf.1 hwf.2.2.2.2.1 fun _ => ⟨hl.below hal, hsz, hne⟩
  have HT := Lib.hid (timeout_any H1 hok)
  have HB := Lib.hid (beat_any H1 hok)
  have HP := Lib.hid (propose_any H1 hok c)
  have HD : Hid (m.does k (mgMs x) c = if k = 0 then (m.hear (mgMs x)).1 else if k = 1 then m.timeout.1 else if k = 2 then m.beat.1 else (m.propose c).1) := rfl
  generalize m.does k (mgMs x) c = m' at *
  obtain ⟨x0, x1, x2, x3, x4, x5, x6, x7, x8⟩ := x
  obtain ⟨d0, d1, d2, d3, d4, d5⟩ := c
  simp only at HH HP hal H1 HT HB
  have g := blk_new w (.cells #[.int .i64 k, .int .i64 x0, .int .i64 x1, .int .i64 x2, .int .i64 x3, .int .i64 x4, .int .i64 x5, .int .i64 x6, .bool x7, .slice am x8.length cm, .int .i64 d0, .int .i64 d1, .int .i64 d2, .int .i64 d3, .int .i64 d4, .int .i64 d5] 55)
  have hs0 : Step w b a (w.alloc (.cells #[.int .i64 k, .int .i64 x0, .int .i64 x1, .int .i64 x2, .int .i64 x3, .int .i64 x4, .int .i64 x5, .int .i64 x6, .bool x7, .slice am x8.length cm, .int .i64 d0, .int .i64 d1, .int .i64 d2, .int .i64 d3, .int .i64 d4, .int .i64 d5] 55)) a := .of_below hal
  clear hl hwf hsz hne
  show Calls _ _ #[_, .agg #[.int .i64 k, .int .i64 x0, .int .i64 x1, .int .i64 x2, .int .i64 x3, .int .i64 x4, .int .i64 x5, .int .i64 x6, .bool x7, .slice am x8.length cm, .int .i64 d0, .int .i64 d1, .int .i64 d2, .int .i64 d3, .int .i64 d4, .int .i64 d5]] _ _
  by_cases k0 : k = 0
  · subst k0
    rw [Hid, if_pos rfl] at HD
    rw [HD]
    generalize (m.hear _).1 = m1 at *
    generalize (m.hear _).2 = l1 at *
    clear HT HB HP HD
    go_enter Try.func19, Try.ntmps19
    have hc := fun i => blk_cell g i
    have c0 := hc 0
    have c1 := hc 1
    have c2 := hc 2
    have c3 := hc 3
    have c4 := hc 4
    have c5 := hc 5
    have c6 := hc 6
    have c7 := hc 7
    have c8 := hc 8
    have c9 := hc 9
    have c10 := hc 10
    have c11 := hc 11
    have c12 := hc 12
    have c13 := hc 13
    have c14 := hc 14
    have c15 := hc 15
    have clt := blk_lt g
    clear hc
    go_wp2_with (go_at_call 17; refine HH.out.mono ?_; rintro e w3 ⟨a3, B3, A3, cc3, sl3, rfl, H3, S3, hB3, hf3, hms3⟩)
    refine bodyPost_ret (v := .tuple #[.int .i64 0, .slice A3 l1.length cc3, .int .i64 0]) (by simp [results, Try.results19, go_sem]) rfl ?_
    exact ⟨a3, _, rfl, H3, hs0.trans S3⟩
  by_cases k1 : k = 1
  · subst k1
    rw [Hid, if_neg k0, if_pos rfl] at HD
    rw [HD]
    generalize m.timeout.1 = m1 at *
    generalize m.timeout.2 = l1 at *
    clear HH HB HP HD k0
    go_enter Try.func19, Try.ntmps19
    have hc := fun i => blk_cell g i
    have c0 := hc 0
    have c1 := hc 1
    have c2 := hc 2
    have c3 := hc 3
    have c4 := hc 4
    have c5 := hc 5
    have c6 := hc 6
    have c7 := hc 7
    have c8 := hc 8
    have c9 := hc 9
    have c10 := hc 10
    have c11 := hc 11
    have c12 := hc 12
    have c13 := hc 13
    have c14 := hc 14
    have c15 := hc 15
    have clt := blk_lt g
    clear hc
    go_wp2_with (go_at_call 10; refine HT.out.mono ?_; rintro e w3 ⟨a3, B3, A3, cc3, sl3, rfl, H3, S3, hB3, hf3, hms3⟩)
    refine bodyPost_ret (v := .tuple #[.int .i64 0, .slice A3 l1.length cc3, .int .i64 0]) (by simp [results, Try.results19, go_sem]) rfl ?_
    exact ⟨a3, _, rfl, H3, hs0.trans S3⟩
  by_cases k2 : k = 2
  · subst k2
    rw [Hid, if_neg k0, if_neg k1, if_pos rfl] at HD
    rw [HD]
    generalize m.beat.1 = m1 at *
    generalize m.beat.2 = l1 at *
    clear HT HH HP HD k0 k1
    go_enter Try.func19, Try.ntmps19
    have hc := fun i => blk_cell g i
    have c0 := hc 0
    have c1 := hc 1
    have c2 := hc 2
    have c3 := hc 3
    have c4 := hc 4
    have c5 := hc 5
    have c6 := hc 6
    have c7 := hc 7
    have c8 := hc 8
    have c9 := hc 9
    have c10 := hc 10
    have c11 := hc 11
    have c12 := hc 12
    have c13 := hc 13
    have c14 := hc 14
    have c15 := hc 15
    have clt := blk_lt g
    clear hc
    go_wp2_with (go_at_call 39; refine HB.out.mono ?_; rintro e w3 ⟨a3, B3, A3, cc3, sl3, rfl, H3, S3, hB3, hf3, hms3⟩)
    refine bodyPost_ret (v := .tuple #[.int .i64 0, .slice A3 l1.length cc3, .int .i64 0]) (by simp [results, Try.results19, go_sem]) rfl ?_
    exact ⟨a3, _, rfl, H3, hs0.trans S3⟩
  · rw [Hid, if_neg k0, if_neg k1, if_neg k2] at HD
    rw [HD]
    have b0 : (k == 0) = false := by simpa using k0
    have b1 : (k == 1) = false := by simpa using k1
    have b2 : (k == 2) = false := by simpa using k2
    generalize m.propose _ = p1 at *
    obtain ⟨m1, p2, l1, p3⟩ := p1
    clear HT HB HH HD k0 k1 k2
    go_enter Try.func19, Try.ntmps19
    have hc := fun i => blk_cell g i
    have c0 := hc 0
    have c1 := hc 1
    have c2 := hc 2
    have c3 := hc 3
    have c4 := hc 4
    have c5 := hc 5
    have c6 := hc 6
    have c7 := hc 7
    have c8 := hc 8
    have c9 := hc 9
    have c10 := hc 10
    have c11 := hc 11
    have c12 := hc 12
    have c13 := hc 13
    have c14 := hc 14
    have c15 := hc 15
    have clt := blk_lt g
    clear hc
    go_wp2_with (go_at_call 16; refine HP.out.mono ?_; rintro e w3 ⟨a3, B3, A3, cc3, sl3, rfl, H3, S3, hB3, hf3, hms3⟩)
    refine bodyPost_ret (v := .tuple #[.int .i64 p2, .slice A3 l1.length cc3, .int .i64 p3]) (by simp [results, Try.results19, go_sem]) rfl ?_
    exact ⟨a3, _, rfl, H3, hs0.trans S3⟩
set_option linter.unusedVariables false
theorem settledR {w : World} {b : Nat} {a : MA} {m : Mb} (h : MAt w b a m) : Calls Try.prog 15 #[.pointer (some ⟨b, 0, none⟩)] w fun e w' => e = .returned (.int .i64 m.settled) ∧ w' = w := by
  obtain ⟨c0, c1, c2, c3, c4, c5, c6, c7, c8, c9, hlt⟩ := box10 h.blk
  go_enter Try.func15, Try.ntmps15
  go_wp2
  go_ret
  exact ⟨rfl, rfl⟩
theorem roleR {w : World} {b : Nat} {a : MA} {m : Mb} (h : MAt w b a m) : Calls Try.prog 12 #[.pointer (some ⟨b, 0, none⟩)] w fun e w' => e = .returned (.int .i64 m.role) ∧ w' = w := by
  obtain ⟨c0, c1, c2, c3, c4, c5, c6, c7, c8, c9, hlt⟩ := box10 h.blk
  go_enter Try.func12, Try.ntmps12
  go_wp2
  go_ret
  exact ⟨rfl, rfl⟩
theorem ensV_pre {es fs : List En} (h : fs.take es.length = es) (hl : es.length ≤ fs.length) : (ensV fs).take (es.length * 7) = ensV es := by
  rw [ensV_take, h]
set_option maxRecDepth 100000 in
set_option maxHeartbeats 6400000 in
theorem raftRises_walk (id many t v b bt : Int) (la : Option Addr) (lc : Nat) (es : List En) (ca : Option Addr) (cc : Nat) (vs : List EvR) (w : World) (hl : LogIn w la lc es) (hvs : EvrsIn w ca cc vs) :
    Calls Try.prog 7 #[.int .i64 id, .int .i64 many, ballotV t v, logV b bt la es.length lc, .slice ca vs.length cc] w fun e w' => e = .returned (.bool true) ∧ Below w.heap.size w w' := by
  have g0 := alloc2_fst w (.cells #[.int .i64 t, .int .i64 v] 23) (.cells #[.int .i64 b, .int .i64 bt, .slice la es.length lc] 26)
  have g1 := alloc2_snd w (.cells #[.int .i64 t, .int .i64 v] 23) (.cells #[.int .i64 b, .int .i64 bt, .slice la es.length lc] 26)
  have hw0 := below2 w (.cells #[.int .i64 t, .int .i64 v] 23) (.cells #[.int .i64 b, .int .i64 bt, .slice la es.length lc] 26)
  have HFE : Hid (∀ W, Below w.heap.size w W → Calls Try.prog 18 #[.slice ca vs.length cc] W (RetFewR vs W)) := fun W h => fewR_any ca cc vs W (hvs.below h)
  by_cases h100 : 100 < (es.length : Int)
  · clear hl hvs
    go_enter Try.func7, Try.ntmps7
    go_wp2_with (first
      | (go_at_call 8; refine (raftAwake_any _).mono ?_; rintro e w1 ⟨rfl, hb1⟩; replace hw0 := hw0.trans (hb1.mono hw0.size); replace g0 := blk_keep hb1 g0; replace g1 := blk_keep hb1 g1; obtain ⟨bc0, bc1, bf0, bf1, blt⟩ := box2 g0; obtain ⟨lc0, lc1, lc2, lf0, lf1, lf2, llt⟩ := box3 g1)
      | (go_at_call 18; refine (HFE.out _ hw0).mono ?_; rintro e wx ⟨q, rfl, hq, hwx⟩; subst hwx; replace hq := Lib.hid hq; cases q))
    all_goals go_ret
    all_goals exact ⟨rfl, hw0⟩
  cases hok : newOk id many t v b bt es with
  | false =>
    have HN : Hid (∀ W, Below w.heap.size w W → Calls Try.prog 9 #[.int .i64 id, .int .i64 many, ballotV t v, logV b bt la es.length lc] W (RetNo W)) := fun W h => new_no id many t v b bt la lc es W (hl.below h) hok
    clear hok hl hvs
    go_enter Try.func7, Try.ntmps7
    go_wp2_with (first
      | (go_at_call 8; refine (raftAwake_any _).mono ?_; rintro e w1 ⟨rfl, hb1⟩; replace hw0 := hw0.trans (hb1.mono hw0.size); replace g0 := blk_keep hb1 g0; replace g1 := blk_keep hb1 g1; obtain ⟨bc0, bc1, bf0, bf1, blt⟩ := box2 g0; obtain ⟨lc0, lc1, lc2, lf0, lf1, lf2, llt⟩ := box3 g1)
      | (go_at_call 18; refine (HFE.out _ hw0).mono ?_; rintro e wx ⟨q, rfl, hq, hwx⟩; subst hwx; replace hq := Lib.hid hq; cases q)
      | (go_at_call 9; refine (HN.out _ hw0).mono ?_; rintro e w2 ⟨rfl, hb2⟩; replace hw0 := hw0.trans (hb2.mono hw0.size)))
    all_goals go_ret
    all_goals exact ⟨rfl, hw0⟩
  | true =>
    obtain ⟨n, rfl⟩ : ∃ n : Nat, many = (n : Int) := ⟨many.toNat, by unfold newOk at hok; rw [decide_eq_true_eq] at hok; omega⟩
    obtain ⟨hbt, hmok0⟩ := newMb_ok hok
    subst hbt
    have hb0 : b = 0 := by unfold newOk at hok; rw [decide_eq_true_eq] at hok; exact hok.2.2.2.2.2.2.1
    subst hb0
    have HN : Hid (∀ W, Below w.heap.size w W → Calls Try.prog 9 #[.int .i64 id, .int .i64 (n : Int), ballotV t v, logV 0 0 la es.length lc] W (RetNew (newMb id n t v es) W)) := fun W h => new_yes id t v n la lc es W (hl.below h) hok
    have HK0 := Lib.hid hmok0
    generalize newMb id n t v es = m0 at *
    have HV := Lib.hid hvs
    have hfl := fieldLog
    clear hok hl hmok0 hvs
    go_enter Try.func7, Try.ntmps7
    go_wp2_with (first
      | (go_at_call 8; refine (raftAwake_any _).mono ?_; rintro e w1 ⟨rfl, hb1⟩; replace hw0 := hw0.trans (hb1.mono hw0.size); replace g0 := blk_keep hb1 g0; replace g1 := blk_keep hb1 g1; obtain ⟨bc0, bc1, bf0, bf1, blt⟩ := box2 g0; obtain ⟨lc0, lc1, lc2, lf0, lf1, lf2, llt⟩ := box3 g1)
      | (go_at_call 18; refine (HFE.out _ hw0).mono ?_; rintro e wx ⟨q, rfl, hq, hwx⟩; subst hwx; replace hq := Lib.hid hq; cases q)
      | (go_at_call 9; refine (HN.out _ hw0).mono ?_; rintro e w2 ⟨B, a, rfl, H2, hF2, hb2⟩; have hff : ∀ y ∈ foot B a, w.heap.size ≤ y := (fun y hy => Nat.le_trans hw0.size (hF2 y hy)); replace hw0 := hw0.trans (hb2.mono hw0.size); clear g0 g1 bc0 bc1 bf0 bf1 blt lc0 lc1 lc2 lf0 lf1 lf2 llt))
    · go_ret
      exact ⟨rfl, hw0⟩
    go_loopw [15] (fun i wr => ∃ (k : Nat) (a' : MA) (m : Mb), k ≤ vs.length ∧ i = .int .i64 (k : Int) ∧ Hid (MbOk m) ∧ MAt wr B a' m ∧ (∀ y ∈ foot B a', w.heap.size ≤ y) ∧ Below w.heap.size w wr) (fun i _ => vs.length - (intOf i).toNat)
    case atStart => exact ⟨0, a, m0, by omega, rfl, HK0, H2, hff, hw0⟩
    case round =>
      clear H2 hff hw0 HK0 hF2 HN hb1 hb2 HFE
      obtain ⟨k, a6, m, hk, rfl, HK, H6, hff6, hw6⟩ := hrel
      have hk0 : (0 : Int) ≤ (k : Int) := by omega
      by_cases hlt : k < vs.length
      rotate_left 1
      · have hk1 : ¬ (k : Int) < (vs.length : Int) := by omega
        go_wp2
        go_ret
        exact ⟨rfl, hw6⟩
      have hk1 : (k : Int) < (vs.length : Int) := by omega
      have hv60 := (hq.out trivial).1
      have hv20 := (hq.out trivial).2 _ (List.getElem_mem hlt)
      have HR := rises_does HK.out (vs[k]'hlt).1 (mgMs (vs[k]'hlt).2.1) (vs[k]'hlt).2.2
      have HK2 := Lib.hid (HK.out.does (vs[k]'hlt).1 (mgMs (vs[k]'hlt).2.1) (vs[k]'hlt).2.2)
      have HDO : Hid (∀ W am cm, MAt W B a6 m → LogIn w am cm (vs[k]'hlt).2.1.2.2.2.2.2.2.2.2 → Below w.heap.size w W → MgWf (vs[k]'hlt).2.1 → Calls Try.prog 19 #[.pointer (some ⟨B, 0, none⟩), evrV (vs[k]'hlt).1 (vs[k]'hlt).2.1 am cm (vs[k]'hlt).2.2] W (RetD (m.does (vs[k]'hlt).1 (mgMs (vs[k]'hlt).2.1) (vs[k]'hlt).2.2) B a6 W)) := fun W am cm h hle hb hwf => does_any B a6 m _ _ am cm _ W h HK.out hwf (hle.below hb) (by omega) fun h0 y hy hc => by
        rcases hle.row with h1 | ⟨b1, off, ha, hlt, _⟩
        · have := congrArg List.length h1
          rw [ensV_length, List.length_nil] at this
          exact h0 (by omega)
        · subst ha
          simp only [blkOf, List.mem_singleton] at hy
          subst hy
          have := hff6 _ hc
          omega
      obtain ⟨nb, noff, am, cm, rfl, nlt0, ⟨c0, c1, c2, c3, c4, c5, c6, c7, c8, c9⟩, ⟨d0, d1, d2, d3, d4, d5⟩, hle, hwf⟩ := evr_cells HV.out hlt
      have HDO := Lib.hid (fun (W : World) (h : MAt W B a6 m) (hb : Below w.heap.size w W) => HDO.out W am cm h hle hb hwf)
      clear hle hwf hv20 hv60
      generalize m.does (vs[k]'hlt).1 (mgMs (vs[k]'hlt).2.1) (vs[k]'hlt).2.2 = m2 at *
      generalize (vs[k]'hlt) = x at *
      obtain ⟨xk, ⟨x0, x1, x2, x3, x4, x5, x6, x7, x8⟩, y0, y1, y2, y3, y4, y5⟩ := x
      simp only at c0 c1 c2 c3 c4 c5 c6 c7 c8 c9 d0 d1 d2 d3 d4 d5 HDO
      have hL := HK.out.len64
      have hL2 := HK2.out.len64
      obtain ⟨hr1, hr2, hr3, hr4, hr5, hr6⟩ := HR
      have HBA := Lib.hid (ballot_any H6)
      have hcell := fun (W : World) (hb : Below w.heap.size w W) (i : Nat) => (bcell hb).1 nb i nlt0
      have hcell := Lib.hid hcell
      go_upto_region 15 with (first
        | (go_at_call 11; refine HBA.out.mono ?_; rintro e w7 ⟨rfl, hb7⟩; have hw7 := hw6.trans (hb7.mono hw6.size); have H7 := (H6.below hb7).below (below1 w7 (.cells #[.int .i64 m.term, .int .i64 m.vote] 23)); have hw7' := hw7.trans ((below1 w7 (.cells #[.int .i64 m.term, .int .i64 m.vote] 23)).mono hw7.size); have G7 := blk_new w7 (.cells #[.int .i64 m.term, .int .i64 m.vote] 23); have HS7 := Lib.hid (settledR H7); have HR7 := Lib.hid (roleR H7); have HL7 := Lib.hid (mlog_any H7 hL); have hn7 : w7.heap.size ∉ foot B a6 := (H6.below hb7).new (Nat.le_refl _))
        | (go_at_call 15; refine HS7.out.mono ?_; rintro e wx ⟨rfl, hwx⟩; subst hwx)
        | (go_at_call 12; refine HR7.out.mono ?_; rintro e wx ⟨rfl, hwx⟩; subst hwx)
        | (go_at_call 14; refine HL7.out.mono ?_; rintro e w8 ⟨A8, c8', rfl, own8, hb8⟩; have hw8 := hw7'.trans (hb8.mono hw7'.size); have H8 := H7.below hb8; have G8 := blk_keep hb8 G7))
      have HD8 := Lib.hid (HDO.out w8 H8 hw8)
      have hz7 : w.heap.size ≤ w7.heap.size := hw7.size
      clear hcell HDO
      generalize w7.heap.size = F7 at *
      have hbal2 : Hid (∀ W a, MAt W B a m2 → Calls Try.prog 11 #[.pointer (some ⟨B, 0, none⟩)] W fun e w' => e = .returned (ballotV m2.term m2.vote) ∧ Below W.heap.size W w') := fun W a h => ballot_any h
      go_upto_region 17 with (first
        | (go_at_call 19; refine HD8.out.mono ?_; rintro e w9 ⟨a9, v9, rfl, H9, S9⟩; have hw9 : Below w.heap.size w w9 := hw8.trans (S9.chg.to_below hff6 hw8.size); have hff9 : ∀ y ∈ foot B a9, w.heap.size ≤ y := (fun y hy => (S9.sub y hy).elim (hff6 y) (fun q => Nat.le_trans hw8.size q)); have G9 := S9.keep G8 hn7; have HB9 := Lib.hid (hbal2.out _ _ H9); have own9 := own_chg own8 S9.chg (fun x hx hc => (by have h1 := (own_blk own8 x hx).1; have := H7.lt x hc; omega)))
        | (go_at_call 11; refine HB9.out.mono ?_; rintro e w10 ⟨rfl, hb10⟩; have hw10 := hw9.trans (hb10.mono hw9.size)))
      have hal := below1 w10 (.cells #[.int .i64 m2.term, .int .i64 m2.vote] 23)
      have hw11 := hw10.trans (hal.mono hw10.size)
      have H11 := (H9.below hb10).below hal
      have G11 := blk_keep hal (blk_keep hb10 G9)
      have N11 := blk_new w10 (.cells #[.int .i64 m2.term, .int .i64 m2.vote] 23)
      have own11 := own_below (own_below own9 hb10) hal
      clear H6 H7 H8 H9 G7 G8 G9 S9 own8 own9 hb7 hb8 hb10 hw6 hw7 hw7' hw8 hw9 hw10 HS7 HR7 HL7 HB9 HBA hal c0 c1 c2 c3 c4 c5 c6 c7 c8 c9 d0 d1 d2 d3 d4 d5 HD8 hn7 hff6
      generalize w10.alloc (.cells #[.int .i64 m2.term, .int .i64 m2.vote] 23) = w11 at *
      generalize w10.heap.size = F10 at *
      obtain ⟨gc0, gc1, gf0, gf1, glt⟩ := box2 G11
      obtain ⟨nc0, nc1, nf0, nf1, nlt⟩ := box2 N11
      have hTd : decide (m2.term < m.term) = false := decide_eq_false (by omega)
      have hSd : decide (m2.settled < m.settled) = false := decide_eq_false (by omega)
      have HS11 := Lib.hid (settledR H11)
      have HR11 := Lib.hid (roleR H11)
      have HL11 := Lib.hid (mlog_any H11 hL2)
      obtain ⟨C, hC⟩ : ∃ C : Bool, C = (m.role == 2 && m2.role == 2 && m2.term == m.term) := ⟨_, rfl⟩
      have HC : Hid (C = true → m.log.length ≤ m2.log.length ∧ m2.log.take m.log.length = m.log) := fun h => by
        rw [h] at hC
        simp at hC
        exact hr4 hC.1.1 hC.1.2 hC.2
      replace hC := Lib.hid hC
      replace hr2 := Lib.hid hr2
      clear hr1 hr3 hr4 hr5 hr6
      generalize m.term = T at *
      generalize m2.term = T2 at *
      generalize m.vote = V at *
      generalize m2.vote = V2 at *
      go_cut [111] (fun c wx => c = .bool false ∧ wx = w11)
      case first =>
        by_cases hT : T2 = T
        · have hTb : (T2 == T) = true := by simp [hT]
          by_cases hV : V = 0
          · have hVb : (V != 0) = false := by simp [hV]
            clear hT hV
            go_wp2_with (go_at_call 15; refine HS11.out.mono ?_; rintro e wx ⟨rfl, hwx⟩; subst hwx)
            go_meet
            exact ⟨rfl, rfl⟩
          · have hVb : (V != 0) = true := by simp [hV]
            have hVV : (V2 != V) = false := by simp [hr2.out hT hV]
            clear hT hV
            go_wp2_with (go_at_call 15; refine HS11.out.mono ?_; rintro e wx ⟨rfl, hwx⟩; subst hwx)
            go_meet
            exact ⟨rfl, rfl⟩
        · have hTb : (T2 == T) = false := by simp [hT]
          clear hT
          go_wp2_with (go_at_call 15; refine HS11.out.mono ?_; rintro e wx ⟨rfl, hwx⟩; subst hwx)
          go_meet
          exact ⟨rfl, rfl⟩
      case rest =>
        obtain ⟨rfl, hwx⟩ := hcut
        subst hwx
        clear gc0 gc1 gf0 gf1 glt nc0 nc1 nf0 nf1 nlt
        go_upto_region 20 with (go_at_call 14; refine HL11.out.mono ?_; rintro e w12 ⟨A12, c12, rfl, own12, hb12⟩; have hw12 := hw11.trans (hb12.mono hw11.size); have H12 := H11.below hb12; have G12 := blk_keep hb12 G11; have N12 := blk_keep hb12 N11; have P12 := own_below own11 hb12)
        have HR12 := Lib.hid (roleR H12)
        obtain ⟨gc0, gc1, gf0, gf1, glt⟩ := box2 G12
        obtain ⟨nc0, nc1, nf0, nf1, nlt⟩ := box2 N12
        go_cut [128] (fun c wx => c = .bool C ∧ wx = w12)
        case first =>
          obtain ⟨q1, e1⟩ : ∃ q, (m.role == 2) = q := ⟨_, rfl⟩
          obtain ⟨q2, e2⟩ : ∃ q, (m2.role == 2) = q := ⟨_, rfl⟩
          obtain ⟨q3, e3⟩ : ∃ q, (T2 == T) = q := ⟨_, rfl⟩
          have hC2 : Hid (C = (q1 && q2 && q3)) := by rw [← e1, ← e2, ← e3]; exact hC.out
          clear hC HC
          cases q1
          · go_wp2_with (fail)
            go_meet
            exact ⟨by rw [hC2.out]; rfl, rfl⟩
          · cases q2
            · go_wp2_with (go_at_call 12; refine HR12.out.mono ?_; rintro e wx ⟨rfl, hwx⟩; subst hwx)
              go_meet
              exact ⟨by rw [hC2.out]; rfl, rfl⟩
            · go_wp2_with (go_at_call 12; refine HR12.out.mono ?_; rintro e wx ⟨rfl, hwx⟩; subst hwx)
              go_meet
              exact ⟨by rw [hC2.out]; simp, rfl⟩
        case rest =>
          obtain ⟨rfl, hwx⟩ := hcut
          subst hwx
          clear gc0 gc1 gf0 gf1 glt nc0 nc1 nf0 nf1 nlt
          have hv60 : vs.length ≤ 60 := (hq.out trivial).1
          clear hC
          cases C with
          | false =>
            clear HC
            go_wp2
            go_roundw
            case rel => exact ⟨k + 1, a9, m2, by omega, by go_num, HK2, H12, hff9, hw12⟩
            case measure => simp [intOf]; omega
          | true =>
            obtain ⟨hln, htk⟩ := HC.out rfl
            have hld : decide ((m2.log.length : Int) < (m.log.length : Int)) = false := decide_eq_false (by omega)
            replace htk := Lib.hid htk
            have HSA : Hid (Calls Try.prog 20 #[.slice A12 m.log.length c12, .slice A8 m.log.length c8'] wc fun e w' => e = .returned (.bool true) ∧ Below wc.heap.size wc w') := by
              have h1 : RowAt wc A12 (ensV m.log) := by
                have := (RowAt.of_own own12).take (m.log.length * 7)
                rwa [ensV_pre htk.out hln] at this
              have := same_any A12 c12 m.log A8 c8' m.log wc h1 (RowAt.of_own P12) (by unfold maxLen; omega)
              rw [show decide (m.log = m.log) = true from decide_eq_true rfl] at this
              exact this
            have hcap : m2.log.length ≤ c12 := (LogIn.of_own own12).cap
            have hsl := fun W => slice_toS elemE A12 m2.log.length c12 m.log.length (by omega) W
            clear HC
            go_wp2_with (go_at_call 20; refine HSA.out.mono ?_; rintro e w13 ⟨rfl, hb13⟩)
            go_roundw
            case rel => exact ⟨k + 1, a9, m2, by omega, by go_num, HK2, H12.below hb13, hff9, hw12.trans (hb13.mono hw12.size)⟩
            case measure => simp [intOf]; omega
end Go.Proofs.Ytlejbhgginolgaa
