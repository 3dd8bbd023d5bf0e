/-
  Lv: several texts in one.
-/
import Derived.Test.YthjdbmfobmnnlaaGreatSf
/-
  What a save costs; a disk with room.
-/
namespace Go.Proofs.YthjdbmfobmnnlaaGreat
open Go.RowKit
set_option linter.unusedVariables false
theorem saveB_fine {h : St} {t v : Int} {l : List En} (ok : SaveOk h t v l) : (saveB h t v l).length ≤ (if h.1 = t ∧ h.2.1 = v then 0 else 83) + (if commonN h.2.2 l < h.2.2.length then 83 else 0) + (l.length - commonN h.2.2 l) * 83 := by
  obtain ⟨c1, c2, c3⟩ := commonN_spec h.2.2 l
  have h64 := (mayL_true ok.held.2).2.2.2.2.2.1
  have e1 : (if h.1 = t ∧ h.2.1 = v then ([] : List UInt8) else recB 1 [t, v]).length ≤ (if h.1 = t ∧ h.2.1 = v then 0 else 83) := by
    split
    · exact Nat.le_refl _
    · exact (rec_length (ballot_rec ok.vote)).2
  have e2 : (if commonN h.2.2 l < h.2.2.length then recB 3 [((commonN h.2.2 l : Nat) : Int)] else ([] : List UInt8)).length ≤ (if commonN h.2.2 l < h.2.2.length then 83 else 0) := by
    split
    · exact (rec_length (left_rec (by omega))).2
    · exact Nat.le_refl _
  have e3 := entRecs_le (l.drop (commonN h.2.2 l)) (commonN h.2.2 l) fun j hj => by
    rw [List.length_drop] at hj
    have hr := ent_rec ok.log (i := commonN h.2.2 l + j) (by omega) (ok.fair _ (List.getElem_mem _))
    rw [List.getElem_drop]
    exact hr
  rw [List.length_drop] at e3
  unfold saveB
  rw [List.length_append, List.length_append]
  omega
/-- What the ballots to come may cost. -/
def potB (Tc : Nat) (m : Mb) : Nat := 2 * (Tc - m.term.toNat) + if m.vote = 0 then 1 else 0
/-- What the entries to come may cost, with this log to come. -/
def potL (Nc : Nat) (X L : List En) : Nat := if L = X.take L.length then Nc - L.length else Nc + 1
/-- A disk with room for all that is to come. -/
structure Fit (Tc Nc : Nat) (X : List En) (p : Mb × Vt) : Prop where
  room : p.2.1.length + 83 * (potB Tc p.1 + potL Nc X p.1.log) + 249 ≤ 65536
  term : p.1.term ≤ Tc
  len : p.1.log.length ≤ Nc
  fair : ∀ e ∈ p.1.log, EnFair e
/-- What was saved costs no more than what it was to cost. -/
theorem Fit.save {Tc Nc n i : Nat} {X X' : List En} {p : Mb × Vt} (f : Fit Tc Nc X p) (ok : PairOk n i p) {m : Mb} (hm : InGr n m) (ht : m.term ≤ Tc) (hl : m.log.length ≤ Nc) (hf : ∀ e ∈ m.log, EnFair e)
    (hb : (m.term = p.1.term ∧ m.vote = p.1.vote) ∨ potB Tc m + 1 ≤ potB Tc p.1) (hlog : (if commonN p.1.log m.log < p.1.log.length then 1 else 0) + (m.log.length - commonN p.1.log m.log) + potL Nc X' m.log ≤ potL Nc X p.1.log) :
    saves m p.2 = 0 ∧ Fit Tc Nc X' (m, syncV (saved m p.2)) := by
  have hh := ok.holds
  have sok : SaveOk p.2.2.2 m.term m.vote m.log := ⟨ok.vt.held, hm.mb.ballot, hm.mb.log, hf⟩
  have hfine := saveB_fine sok
  have hr := f.room
  have e2 : p.2.2.2.2.2 = p.1.log := by rw [hh]
  rw [e2] at hfine
  have hbal : (if p.2.2.2.1 = m.term ∧ p.2.2.2.2.1 = m.vote then 0 else 83) + 83 * potB Tc m ≤ 83 * potB Tc p.1 := by
    rcases hb with ⟨b1, b2⟩ | b
    · rw [if_pos (by rw [hh, b1, b2]; exact ⟨rfl, rfl⟩)]
      unfold potB
      rw [b1, b2]
      omega
    · split <;> omega
  have hlg : (if commonN p.1.log m.log < p.1.log.length then 83 else 0) = 83 * (if commonN p.1.log m.log < p.1.log.length then 1 else 0) := by split <;> rfl
  rw [hlg] at hfine
  have hz : saves m p.2 = 0 := by
    unfold saves saveE
    rw [if_pos ⟨hm.mb.ballot, hm.mb.log, rfl, hf⟩, if_neg (by rw [List.length_append]; omega)]
  refine ⟨hz, ?_, ht, hl, hf⟩
  show (saved m p.2).1.length + 83 * (potB Tc m + potL Nc X' m.log) + 249 ≤ 65536
  unfold saved
  rw [saveV_eq hz]
  show (p.2.1 ++ saveB p.2.2.2 m.term m.vote m.log).length + _ + _ ≤ _
  rw [List.length_append]
  omega
theorem potL_grow {Nc : Nat} {X : List En} {e : En} {L : List En} (hX : X.length < Nc) : potL Nc (X ++ [e]) L ≤ potL Nc X L := by
  unfold potL
  by_cases h : L = X.take L.length
  · have hl : L.length ≤ X.length := by have := congrArg List.length h; rw [List.length_take] at this; omega
    rw [if_pos h, if_pos (by rw [List.take_append_of_le_length hl]; exact h)]
    exact Nat.le_refl _
  · rw [if_neg h]
    split <;> omega
theorem Fit.grow {Tc Nc : Nat} {X : List En} {p : Mb × Vt} (f : Fit Tc Nc X p) {e : En} (hX : X.length < Nc) : Fit Tc Nc (X ++ [e]) p := by
  have := f.room
  have h2 := potL_grow (e := e) (L := p.1.log) hX
  exact ⟨by omega, f.term, f.len, f.fair⟩
theorem commonN_pre {X : List En} {e : List En} : commonN X (X ++ e) = X.length := by
  have h1 := (commonN_spec X (X ++ e)).1
  have h2 := commonN_max (X := X) (L := X ++ e) (Nat.le_refl _) (by simp) (by rw [List.take_append_of_le_length (Nat.le_refl _)])
  omega
/-- The log stays: no entry costs anything. -/
theorem stay_cost {Nc : Nat} {X L : List En} : (if commonN L L < L.length then 1 else 0) + (L.length - commonN L L) + potL Nc X L ≤ potL Nc X L := by
  rw [commonN_self, if_neg (Nat.lt_irrefl _)]
  omega
/-- A leader's own entry. -/
theorem put_cost {Nc : Nat} {X : List En} {e : En} (hX : X.length < Nc) : (if commonN X (X ++ [e]) < X.length then 1 else 0) + ((X ++ [e]).length - commonN X (X ++ [e])) + potL Nc (X ++ [e]) (X ++ [e]) ≤ potL Nc X X := by
  rw [commonN_pre, if_neg (Nat.lt_irrefl _)]
  unfold potL
  rw [if_pos (by rw [List.take_length]), if_pos (by rw [List.take_length]), List.length_append, List.length_singleton]
  omega
/-- Entries that were taken. -/
theorem merge_cost {Nc : Nat} {X M L : List En} {c : Nat} (hX : X.length ≤ Nc) (hM : M.length ≤ Nc) (cX : c ≤ M.length) (same : M.take c = L.take c) (cL : c ≤ L.length) (hL : L = M ∨ (L = X.take L.length ∧ c < L.length)) (diff : ∀ e f, M[c]? = some e → X[c]? = some f → e.1 ≠ f.1) :
    (if commonN M L < M.length then 1 else 0) + (L.length - commonN M L) + potL Nc X L ≤ potL Nc X M := by
  rcases hL with rfl | ⟨h1, h2⟩
  · exact stay_cost
  · have hc := commonN_max cX cL same
    have hLX : L.length ≤ X.length := by have := congrArg List.length h1; rw [List.length_take] at this; omega
    have h3 := (commonN_spec M L).1
    unfold potL
    rw [if_pos h1]
    by_cases q : M = X.take M.length
    · rw [if_pos q]
      have hMX : M.length ≤ X.length := by have := congrArg List.length q; rw [List.length_take] at this; omega
      have hcm : c = M.length := by
        refine Classical.byContradiction fun hne => ?_
        have hlt : c < M.length := by omega
        have e1 : M[c]? = X[c]? := by
          have := congrArg (fun l => l[c]?) q
          simp only [List.getElem?_take] at this
          rwa [if_pos hlt] at this
        have e2 : X[c]? = some (X[c]'(by omega)) := List.getElem?_eq_getElem (by omega)
        exact diff _ _ (e1.trans e2) e2 rfl
      rw [if_neg (by omega)]
      omega
    · rw [if_neg q]
      split <;> omega
end Go.Proofs.YthjdbmfobmnnlaaGreat

/-
  Members that hear one who alone speaks.
-/
namespace Go.Proofs.YthjdbmfobmnnlaaGreat
open Go.RowKit
set_option linter.unusedVariables false
/-- What a leader tells is of its log. -/
structure AddC (X : List En) (x : Ms) : Prop where
  i0 : 0 ≤ x.index
  upto : x.index.toNat + x.ents.length ≤ X.length
  ents : x.ents = (X.drop x.index.toNat).take x.ents.length
  lterm : x.lterm = endT (X.take x.index.toNat) 0
/-- What becomes of a log that takes what a leader tells. -/
structure Took (X M L : List En) (u c : Nat) : Prop where
  cM : c ≤ M.length
  cL : c ≤ L.length
  same : M.take c = L.take c
  diff : ∀ e f, M[c]? = some e → X[c]? = some f → e.1 ≠ f.1
  new : L.take u = X.take u
  len : u ≤ L.length
  lie : L = M ∨ (L = X.take L.length ∧ L.length = u ∧ c < L.length)
theorem endT_same {h : Gh} {M X : List En} (lm : Lm h M) (lx : Lm h X) {i : Nat} (h1 : i ≤ M.length) (h2 : i ≤ X.length) (ht : endT (M.take i) 0 = endT (X.take i) 0) : M.take i = X.take i := by
  cases i with
  | zero => rw [List.take_zero, List.take_zero]
  | succ i =>
    have hx : M.take (i + 1) ≠ [] := fun q => by
      have := congrArg List.length q
      rw [List.length_take] at this
      simp only [List.length_nil] at this
      omega
    have hy : X.take (i + 1) ≠ [] := fun q => by
      have := congrArg List.length q
      rw [List.length_take] at this
      simp only [List.length_nil] at this
      omega
    obtain ⟨e, he, het⟩ := endT_last (f := 0) hx
    obtain ⟨f, hf2, hft⟩ := endT_last (f := 0) hy
    have l1 : (M.take (i + 1)).length - 1 = i := by rw [List.length_take]; omega
    have l2 : (X.take (i + 1)).length - 1 = i := by rw [List.length_take]; omega
    rw [l1, List.getElem?_take, if_pos (by omega)] at he
    rw [l2, List.getElem?_take, if_pos (by omega)] at hf2
    exact lm.same lx he hf2 (by omega)
theorem tookX {h : Gh} {M X : List En} (lm : Lm h M) (lx : Lm h X) {x : Ms} (a : AddC X x) (h1 : x.index.toNat ≤ M.length) (ht : endT (M.take x.index.toNat) 0 = endT (X.take x.index.toNat) 0) :
    ∃ c, Took X M (mergeL M x.index.toNat x.ents) (x.index.toNat + x.ents.length) c := by
  have hup := a.upto
  have hents := a.ents
  generalize x.index.toNat = i at *
  have htake := endT_same lm lx h1 (by omega) ht
  obtain ⟨c, c1, c2, c3, c4, c5⟩ := merge_cases lm lx x.ents.length i h1 hup htake
  rw [← hents] at c5
  rcases c5 with ⟨d1, d2⟩ | ⟨d1, d2, d3⟩
  · rw [d2]
    refine ⟨M.length, Nat.le_refl _, Nat.le_refl _, rfl, fun e f q _ => ?_, by rw [← d1]; exact c3, by omega, .inl rfl⟩
    rw [List.getElem?_eq_none (Nat.le_refl _)] at q
    cases q
  · have hlen : (mergeL M i x.ents).length = i + x.ents.length := by rw [d2, List.length_take]; omega
    refine ⟨c, c4, by omega, ?_, d3, ?_, by omega, .inr ⟨by rw [hlen]; exact d2, hlen, by omega⟩⟩
    · rw [d2, List.take_take, Nat.min_eq_left (by omega)]
      exact c3
    · rw [d2, List.take_take, Nat.min_self]
/-- A member that takes what a leader tells. -/
theorem tell_yes {h : Gh} {m : Mb} (ok : MbOk m) (lm : Lm h m.log) {X : List En} (lx : Lm h X) (rx : rising X 0 = true) (x64 : X.length ≤ 64) {x : Ms} (a : AddC X x) (ht : x.term = m.term) (hX : ∀ e ∈ x.ents, e.1 ≤ x.term) (hr : m.role ≠ 2) (h1 : x.index.toNat ≤ m.log.length) (he : endT (m.log.take x.index.toNat) 0 = endT (X.take x.index.toNat) 0) :
    ∃ L c, Took X m.log L (x.index.toNat + x.ents.length) c ∧ m.add x = (m.added' L x, [{ m.say 3 x.frm with yes := true, index := x.index + x.ents.length }]) := by
  obtain ⟨c, tk⟩ := tookX lm lx a h1 he
  refine ⟨_, c, tk, ?_⟩
  have hi0 := a.i0
  have hl64 := ok.len64
  have hodd : ¬ Mb.oddF x = true := fun q => by
    unfold Mb.oddF at q
    rw [List.any_eq_true] at q
    obtain ⟨e, h2, h3⟩ := q
    have := hX e h2
    have h3 := of_decide_eq_true h3
    omega
  have hri : rising x.ents x.lterm = true := by
    rw [a.ents, a.lterm]
    exact rising_take (rising_drop rx _) _
  have hlen : (mergeL m.log x.index.toNat x.ents).length ≤ 64 := by
    have := a.upto
    rcases tk.lie with e | ⟨e1, e2, e3⟩
    · rw [e]; exact hl64
    · omega
  have hadd : addF 0 0 m.log x.index x.lterm x.ents = (0, 0, mergeL m.log x.index.toNat x.ents, 0) := by
    unfold addF
    rw [if_pos ⟨ok.log, hri⟩, if_neg (by omega), if_neg (by omega)]
    rw [if_pos (by rw [termL_at (b := 0) (t := 0) (es := m.log) x.index.toNat h1 (by omega), a.lterm]; exact he), if_neg (by rw [Int.sub_zero]; omega), Int.sub_zero]
  unfold Mb.add
  rw [if_neg (by omega), if_neg hr, if_neg (by rw [hadd]; exact fun q => q.elim (fun z => z rfl) hodd), hadd]
/-- A member that refuses. -/
theorem tell_no {m : Mb} (ok : MbOk m) {X : List En} {x : Ms} (a : AddC X x) (ht : x.term = m.term) (hr : m.role ≠ 2) (hn : ¬ (x.index.toNat ≤ m.log.length ∧ endT (m.log.take x.index.toNat) 0 = endT (X.take x.index.toNat) 0)) :
    m.add x = (m.follow, [{ m.say 3 x.frm with index := (m.log.length : Int) }]) := by
  have hi0 := a.i0
  have hlf := ok.lastF
  unfold Mb.add
  rw [if_neg (by omega), if_neg hr, if_pos, hlf]
  left
  intro q
  obtain ⟨a1, a2, a3, a4, a5, a6, a7⟩ := addF_ok q
  refine hn ⟨by omega, ?_⟩
  rw [termL_at (b := 0) (t := 0) (es := m.log) x.index.toNat (by omega) (by omega)] at a5
  rw [← a.lterm]
  exact a5
/-- What a leader says is of its log. -/
theorem addn_c {m : Mb} (ok : MbOk m) {k : Int} (h1 : 1 ≤ (m.prAt k).2) (h2 : (m.prAt k).2 ≤ (m.log.length : Int) + 1) : AddC m.log (m.addn k) ∧ (m.addn k).index = (m.prAt k).2 - 1 ∧ ((m.addn k).ents.length : Int) = min 8 (m.log.length - ((m.prAt k).2 - 1)) ∧ (m.addn k).commit = m.settled := by
  obtain ⟨j, hj⟩ : ∃ j : Nat, (m.prAt k).2 = (j : Int) + 1 := ⟨((m.prAt k).2 - 1).toNat, by omega⟩
  have e0 : (m.addn k).index = (j : Int) := by show (m.prAt k).2 - 1 = _; omega
  have hjl : j ≤ m.log.length := by omega
  have e2 : (m.addn k).ents = (m.log.drop j).take 8 := by
    show fromF 0 0 m.log (m.prAt k).2 8 = _
    rw [hj]
    unfold fromF
    rw [fairL_yes ok.log]
    show fromL 0 m.log _ 8 = _
    unfold fromL
    by_cases hc : (j : Int) + 1 ≤ 0 ∨ 0 + (m.log.length : Int) < (j : Int) + 1 ∨ (8 : Int) ≤ 0
    · rw [if_pos hc, List.drop_of_length_le (by omega), List.take_nil]
    · rw [if_neg hc, show ((j : Int) + 1 - 0 - 1).toNat = j by omega]; rfl
  have e3 : (m.addn k).ents.length = min 8 (m.log.length - j) := by rw [e2, List.length_take, List.length_drop]
  refine ⟨⟨by omega, by rw [e0, e3]; omega, ?_, ?_⟩, by omega, by rw [e3, hj]; omega, rfl⟩
  · rw [e0, e2, Int.toNat_natCast]
    exact take_take_len _ _
  · show (termF 0 0 m.log ((m.prAt k).2 - 1)).1 = _
    rw [e0, Int.toNat_natCast]
    unfold termF
    rw [fairL_yes ok.log]
    show (termL 0 0 m.log ((m.prAt k).2 - 1)).1 = _
    rw [termL_at j hjl (by omega)]
/-- A message that is heard. -/
structure Hr (m : Mb) (x : Ms) : Prop where
  dst : x.dst = m.id
  frm : 1 ≤ x.frm ∧ x.frm ≤ m.prog.length
  ne : x.frm ≠ m.id
  term : 1 ≤ x.term ∧ x.term ≤ 1073741824
  kind : 0 ≤ x.kind ∧ x.kind ≤ 3
theorem Hr.eq {m : Mb} {x : Ms} (h : Hr m x) : m.hear x = (m.seen x).acts x := by
  unfold Mb.hear
  rw [if_pos]
  unfold Mb.hears
  rw [decide_eq_true_eq]
  exact ⟨h.dst, h.frm.1, h.frm.2, h.ne, h.term.1, h.term.2, h.kind.1, h.kind.2⟩
theorem seen_all (m : Mb) (x : Ms) : (m.seen x).id = m.id ∧ (m.seen x).log = m.log ∧ (m.seen x).settled = m.settled ∧ (m.seen x).prog = m.prog ∧ (m.seen x).term = max m.term x.term ∧ (m.term < x.term → (m.seen x).vote = 0 ∧ (m.seen x).role = 0) ∧ (¬ m.term < x.term → m.seen x = m) := by
  unfold Mb.seen
  split
  · rename_i h
    exact ⟨rfl, rfl, rfl, rfl, by show x.term = _; omega, fun _ => ⟨rfl, rfl⟩, fun q => (q h).elim⟩
  · rename_i h
    exact ⟨rfl, rfl, rfl, rfl, by omega, fun q => (h q).elim, fun _ => rfl⟩
theorem potB_less {Tc : Nat} {m m' : Mb} (h0 : 0 ≤ m.term) (h : m.term < m'.term) (hc : m'.term ≤ Tc) : potB Tc m' + 1 ≤ potB Tc m := by
  unfold potB
  split <;> split <;> omega
theorem potB_vote {Tc : Nat} {m m' : Mb} (ht : m'.term = m.term) (h : m.vote = 0) (h' : m'.vote ≠ 0) : potB Tc m' + 1 ≤ potB Tc m := by
  unfold potB
  rw [if_pos h, if_neg h', ht]
  omega
theorem potB_same {Tc : Nat} {m m' : Mb} (ht : m'.term = m.term) (h : m'.vote = m.vote) : potB Tc m' = potB Tc m := by
  unfold potB
  rw [ht, h]
/-- A ballot that stays, or costs what it was to cost. -/
def Bal (Tc : Nat) (m m' : Mb) : Prop := (m'.term = m.term ∧ m'.vote = m.vote) ∨ potB Tc m' + 1 ≤ potB Tc m
theorem seen_bal {Tc : Nat} {m m' : Mb} {x : Ms} (h0 : 0 ≤ m.term) (h1 : m'.term = (m.seen x).term) (h2 : m'.vote = (m.seen x).vote) (hc : m'.term ≤ Tc) : Bal Tc m m' := by
  obtain ⟨_, _, _, _, s5, s6, s7⟩ := seen_all m x
  by_cases q : m.term < x.term
  · exact .inr (potB_less h0 (by omega) hc)
  · rw [s7 q] at h1 h2
    exact .inl ⟨h1, h2⟩
/-- One that is asked for its vote. -/
theorem hear_ask {m : Mb} {x : Ms} (ok : MbOk m) (hr : Hr m x) (hk : x.kind = 0) (Tc : Nat) (hc : max m.term x.term ≤ Tc) :
    (m.hear x).1.log = m.log ∧ (m.hear x).1.settled = m.settled ∧ (m.hear x).1.term = max m.term x.term ∧ Bal Tc m (m.hear x).1 ∧
      ∃ y : Ms, (m.hear x).2 = [y] ∧ y.kind = 1 ∧ y.frm = m.id ∧ y.dst = x.frm ∧ y.term = max m.term x.term ∧
        ((m.term < x.term ∨ (m.term = x.term ∧ (m.vote = 0 ∨ m.vote = x.frm))) → newerB x.index x.lterm (m.log.length : Int) (endT m.log 0) = true → y.yes = true) := by
  obtain ⟨s1, s2, s3, s4, s5, s6, s7⟩ := seen_all m x
  have hb0 := (mayV_true ok.ballot).1
  have e : m.hear x = (m.seen x).asked x := by rw [hr.eq]; exact if_pos hk
  have oks := ok.seen x hr.term.2
  have hlf := oks.lastF
  rw [s2] at hlf
  have hsf : seeF (m.seen x).term (m.seen x).vote x.term = ((m.seen x).term, (m.seen x).vote) := if_neg (by omega)
  have hid := hr.frm
  have h16 := ok.n16
  have hmf : memberB x.frm = true := by
    unfold memberB
    simp only [Bool.and_eq_true, decide_eq_true_eq]
    omega
  rw [e]
  by_cases hg : x.term = (m.seen x).term ∧ memberB x.frm = true ∧ ((m.seen x).vote = 0 ∨ (m.seen x).vote = x.frm) ∧ newerB x.index x.lterm (lastF 0 0 (m.seen x).log).1 (lastF 0 0 (m.seen x).log).2 = true
  · have hgf : grantF (m.seen x).term (m.seen x).vote 0 0 (m.seen x).log x.frm x.term x.index x.lterm = ((m.seen x).term, x.frm, true) := by unfold grantF; rw [hsf]; exact if_pos hg
    unfold Mb.asked
    rw [hgf]
    refine ⟨s2, s3, s5, ?_, _, rfl, rfl, s1, rfl, s5, fun _ _ => rfl⟩
    by_cases q : m.term < x.term
    · exact .inr (potB_less hb0 (by show m.term < (m.seen x).term; omega) (by show (m.seen x).term ≤ _; omega))
    · rw [s7 q]
      rw [s7 q] at hg
      rcases hg.2.2.1 with v | v
      · exact .inr (potB_vote rfl v (by show x.frm ≠ 0; omega))
      · exact .inl ⟨rfl, v.symm⟩
  · have hgf : grantF (m.seen x).term (m.seen x).vote 0 0 (m.seen x).log x.frm x.term x.index x.lterm = ((m.seen x).term, (m.seen x).vote, false) := by unfold grantF; rw [hsf]; exact if_neg hg
    unfold Mb.asked
    rw [hgf]
    refine ⟨s2, s3, s5, seen_bal hb0 rfl rfl (by show (m.seen x).term ≤ _; omega), _, rfl, rfl, s1, rfl, s5, fun hv hn => ?_⟩
    refine (hg ⟨by omega, hmf, ?_, by rw [s2, hlf]; exact hn⟩).elim
    rcases hv with hv | ⟨hv, hw⟩
    · exact .inl (s6 hv).1
    · rw [s7 (by omega)]
      exact hw
/-- One that is told what to add. -/
theorem hear_tell {h : Gh} {m : Mb} {x : Ms} (ok : MbOk m) (hr : Hr m x) (hk : x.kind = 2) (lm : Lm h m.log) {X : List En} (lx : Lm h X) (rx : rising X 0 = true) (x64 : X.length ≤ 64) (a : AddC X x) (hX : ∀ e ∈ x.ents, e.1 ≤ x.term) (hr2 : m.term = x.term → m.role ≠ 2) (Tc : Nat) (hc : max m.term x.term ≤ Tc) :
    m.settled ≤ (m.hear x).1.settled ∧ (m.hear x).1.term = max m.term x.term ∧ Bal Tc m (m.hear x).1 ∧
      ∃ y : Ms, (m.hear x).2 = [y] ∧ y.kind = 3 ∧ y.frm = m.id ∧ y.dst = x.frm ∧ y.term = max m.term x.term ∧
        ((x.term < m.term ∧ (m.hear x).1.log = m.log) ∨
         (m.term ≤ x.term ∧ y.yes = true ∧ y.index = x.index + x.ents.length ∧ (∃ c, Took X m.log (m.hear x).1.log (x.index.toNat + x.ents.length) c) ∧ min x.commit y.index ≤ (m.hear x).1.settled ∧ x.index.toNat ≤ m.log.length) ∨
         (m.term ≤ x.term ∧ y.yes = false ∧ y.index = (m.log.length : Int) ∧ (m.hear x).1.log = m.log ∧ ¬ (x.index.toNat ≤ m.log.length ∧ endT (m.log.take x.index.toNat) 0 = endT (X.take x.index.toNat) 0))) := by
  obtain ⟨s1, s2, s3, s4, s5, s6, s7⟩ := seen_all m x
  have hb0 := (mayV_true ok.ballot).1
  have e : m.hear x = (m.seen x).add x := by
    rw [hr.eq]; unfold Mb.acts; rw [if_neg (by omega), if_neg (by omega), if_pos hk]
  have oks := ok.seen x hr.term.2
  rw [e]
  by_cases hlt : x.term < m.term
  · have e2 : (m.seen x).add x = (m, [m.say 3 x.frm]) := by
      rw [s7 (by omega)]
      unfold Mb.add
      rw [if_pos hlt]
    rw [e2]
    exact ⟨Int.le_refl _, by show m.term = _; omega, .inl ⟨rfl, rfl⟩, _, rfl, rfl, rfl, rfl, by show m.term = _; omega, .inl ⟨hlt, rfl⟩⟩
  · have ht : x.term = (m.seen x).term := by omega
    have hrs : (m.seen x).role ≠ 2 := by
      by_cases q : m.term < x.term
      · rw [(s6 q).2]; decide
      · rw [s7 q]; exact hr2 (by omega)
    have lm' : Lm h (m.seen x).log := by rw [s2]; exact lm
    by_cases hh : x.index.toNat ≤ (m.seen x).log.length ∧ endT ((m.seen x).log.take x.index.toNat) 0 = endT (X.take x.index.toNat) 0
    · obtain ⟨L, c, tk, e2⟩ := tell_yes oks lm' lx rx x64 a ht hX hrs hh.1 hh.2
      rw [e2]
      refine ⟨?_, s5, seen_bal hb0 rfl rfl (by show (m.seen x).term ≤ _; omega), _, rfl, rfl, s1, rfl, s5, .inr (.inl ⟨by omega, rfl, rfl, ⟨c, by rw [s2] at tk; exact tk⟩, ?_, by rw [s2] at hh; exact hh.1⟩)⟩
      · show m.settled ≤ max (m.seen x).settled _
        omega
      · show min x.commit (x.index + (x.ents.length : Int)) ≤ max (m.seen x).settled (min x.commit (x.index + (x.ents.length : Int)))
        omega
    · have e2 := tell_no oks a ht hrs hh
      rw [e2]
      rw [s2] at hh
      refine ⟨by show m.settled ≤ (m.seen x).settled; omega, s5, seen_bal hb0 rfl rfl (by show (m.seen x).term ≤ _; omega), _, rfl, rfl, s1, rfl, s5, .inr (.inr ⟨by omega, rfl, by show ((m.seen x).log.length : Int) = _; rw [s2], s2, hh⟩)⟩
end Go.Proofs.YthjdbmfobmnnlaaGreat

/-
  One alone speaks unasked.
-/
namespace Go.Proofs.YthjdbmfobmnnlaaGreat
open Go.RowKit
set_option linter.unusedVariables false
def Gr.mb (g : Gr) (i : Int) : Mb := (g.at_ i).1
/-- Whose words with the leader a message is of. -/
def conv (x : Ms) : Int := if x.kind = 2 then x.dst else x.frm
/-- A message while one alone speaks unasked. -/
structure Nx (g : Gr) (f c : Int) (x : Ms) : Prop where
  out : x.kind = 0 ∨ x.kind = 2 → x.frm = f ∧ x.dst ≠ f
  inn : x.kind = 1 ∨ x.kind = 3 → x.dst = f ∧ x.frm ≠ f
  t1 : 1 ≤ x.term
  t2 : x.term ≤ (g.mb x.frm).term
  r1 : (g.mb f).role = 1 → x.kind ≤ 1
  r2 : (g.mb f).role = 2 → 2 ≤ x.kind → (g.mb f).term ≤ x.term
  add : x.kind = 2 → AddC (g.mb f).log x
  addr : x.kind = 2 → (g.mb f).role = 2 → x.index = ((g.mb f).prAt x.dst).2 - 1 ∧ (x.ents.length : Int) = min 8 ((g.mb f).log.length - x.index) ∧ c ≤ x.commit
  yes : x.kind = 3 → (g.mb f).role = 2 → x.term = (g.mb f).term → x.yes = true → (g.mb x.frm).term = (g.mb f).term ∧ x.index = ((g.mb f).prAt x.frm).2 - 1 + min 8 ((g.mb f).log.length - (((g.mb f).prAt x.frm).2 - 1)) ∧ min c x.index ≤ (g.mb x.frm).settled
  no : x.kind = 3 → (g.mb f).role = 2 → x.term = (g.mb f).term → x.yes = false → ((g.mb f).prAt x.frm).1 + 2 ≤ ((g.mb f).prAt x.frm).2 ∧ ((g.mb f).prAt x.frm).1 ≤ x.index
/-- One has all of the leader's log. -/
structure Done (g : Gr) (f c k : Int) : Prop where
  nxt : ((g.mb f).prAt k).2 = ((g.mb f).log.length : Int) + 1
  mat : ((g.mb f).prAt k).1 = ((g.mb f).log.length : Int)
  term : (g.mb k).term = (g.mb f).term
  set : min c (g.mb f).log.length ≤ (g.mb k).settled
/-- One leads. -/
structure Lead2 (n : Nat) (f c : Int) (g : Gr) : Prop where
  one : 1 ≤ (g.mb f).log.length
  last : endT (g.mb f).log 0 = (g.mb f).term
  sfix : (g.mb f).settle = g.mb f
  own : ((g.mb f).prAt f).1 = ((g.mb f).log.length : Int)
  pr : ∀ k, 1 ≤ k → k ≤ (n : Int) → k ≠ f → 1 ≤ ((g.mb f).prAt k).2 ∧ (0 < c → ((g.mb f).prAt k).1 < ((g.mb f).prAt k).2)
  conv : ∀ k, 1 ≤ k → k ≤ (n : Int) → k ≠ f → Done g f c k ∨ ∃ x ∈ g.net, 2 ≤ x.kind ∧ conv x = k
/-- One alone speaks unasked. -/
structure Se (n : Nat) (f c : Int) (Tc Nc : Nat) (g : Gr) (h : Gh) : Prop where
  ok : GrOk g
  inv : Inv g h
  many : g.ms.length = n
  f1 : 1 ≤ f ∧ f ≤ (n : Int)
  nc : Nc ≤ 64
  tc : Tc ≤ 1073741824
  fit : ∀ k, 1 ≤ k → k ≤ (n : Int) → Fit Tc Nc (g.mb f).log (g.at_ k)
  room : (g.mb f).role = 1 → (g.mb f).log.length < Nc
  net : ∀ x ∈ g.net, Nx g f c x
  uniq : g.net.Pairwise fun x y => 2 ≤ x.kind → 2 ≤ y.kind → conv x ≠ conv y
  set : 0 ≤ c ∧ c ≤ (g.mb f).settled
  lead : (g.mb f).role = 2 → Lead2 n f c g
  terms : ∀ k, 1 ≤ k → k ≤ (n : Int) → (g.mb k).term ≤ (g.mb f).term ∨ ∃ x ∈ g.net, ((x.kind = 0 ∨ x.kind = 2) ∧ x.dst = k) ∨ ((x.kind = 1 ∨ x.kind = 3) ∧ x.frm = k ∧ (g.mb k).term ≤ x.term)
/-! ### Steps -/
theorem set_at {g : Gr} {i j : Int} (i1 : 1 ≤ i) (i2 : i ≤ g.ms.length) (j1 : 1 ≤ j) (p : Mb × Vt) (net : List Ms) : (⟨(g.set i p).ms, net⟩ : Gr).at_ j = if j = i then p else g.at_ j := by
  unfold Gr.at_ Gr.set
  simp only
  rw [List.getD_eq_getElem?_getD, List.getD_eq_getElem?_getD, List.getElem?_set]
  by_cases q : j = i
  · subst q
    rw [if_pos rfl, if_pos rfl, if_pos (by omega)]
    rfl
  · rw [if_neg (by omega), if_neg q]
theorem deliver_eq {g : Gr} {x : Ms} {rest : List Ms} (hnet : g.net = x :: rest) : (g.does 3 0 0 0).1 = (⟨g.ms, rest⟩ : Gr).acts x.dst ((g.mb x.dst).hear x).1 ((g.mb x.dst).hear x).2 := by
  have ht : g.there 3 0 = 0 := by
    unfold Gr.there
    rw [if_neg (by decide), if_pos (by decide), if_neg]
    rw [hnet]
    simp
  have h1 : g.msg (0 : Int).toNat = x := by unfold Gr.msg; rw [hnet]; rfl
  have h2 : g.take (0 : Int).toNat = ⟨g.ms, rest⟩ := by unfold Gr.take; rw [hnet]; rfl
  unfold Gr.does
  rw [if_neg (by rw [ht]; exact fun q => q rfl), if_neg (by decide), if_neg (by decide), if_neg (by decide), if_pos rfl, h1, h2]
  rfl
theorem acts_ok {g : Gr} {i : Int} {m : Mb} {said net : List Ms} (hs : saves m (g.at_ i).2 = 0) : (⟨g.ms, net⟩ : Gr).acts i m said = ⟨(g.set i (m, syncV (saved m (g.at_ i).2))).ms, net ++ said⟩ := by
  unfold Gr.acts
  rw [if_pos (show saves m ((⟨g.ms, net⟩ : Gr).at_ i).2 = 0 from hs)]
  rfl
/-- A message that comes to a member, and its disk has room. -/
theorem Se.deliver {n : Nat} {f c : Int} {Tc Nc : Nat} {g : Gr} {h : Gh} (s : Se n f c Tc Nc g h) {x : Ms} {rest : List Ms} (hnet : g.net = x :: rest) {X' : List En}
    (ht : ((g.mb x.dst).hear x).1.term ≤ Tc) (hl : ((g.mb x.dst).hear x).1.log.length ≤ Nc) (hf : ∀ e ∈ ((g.mb x.dst).hear x).1.log, EnFair e) (hb : Bal Tc (g.mb x.dst) ((g.mb x.dst).hear x).1)
    (hlog : (if commonN (g.mb x.dst).log ((g.mb x.dst).hear x).1.log < (g.mb x.dst).log.length then 1 else 0) + (((g.mb x.dst).hear x).1.log.length - commonN (g.mb x.dst).log ((g.mb x.dst).hear x).1.log) + potL Nc X' ((g.mb x.dst).hear x).1.log ≤ potL Nc (g.mb f).log (g.mb x.dst).log) :
    ∃ h' D, Ext h h' ∧ GrOk (g.does 3 0 0 0).1 ∧ Inv (g.does 3 0 0 0).1 h' ∧ (g.does 3 0 0 0).1 = ⟨(g.set x.dst (((g.mb x.dst).hear x).1, D)).ms, rest ++ ((g.mb x.dst).hear x).2⟩ ∧ Fit Tc Nc X' (((g.mb x.dst).hear x).1, D) := by
  obtain ⟨h', e, i'⟩ := s.inv.does s.ok 3 0 0 0
  have hx := s.ok.net x (by rw [hnet]; exact List.mem_cons_self)
  have hd1 := hx.dst.1
  have hd2 := hx.dst.2
  have hp := s.ok.pair _ _ (at_get hd1 hd2)
  have hin := (hp.inGr.hear hx).1
  obtain ⟨z1, z2⟩ := (s.fit x.dst hd1 (by rw [← s.many]; exact hd2)).save (X' := X') hp hin ht hl hf hb hlog
  refine ⟨h', _, e, s.ok.does 3 0 0 0, i', ?_, z2⟩
  rw [deliver_eq hnet]
  exact acts_ok z1
end Go.Proofs.YthjdbmfobmnnlaaGreat

/-
  How much is to come; what one who is told says.
-/
namespace Go.Proofs.YthjdbmfobmnnlaaGreat
open Go.RowKit
set_option linter.unusedVariables false
/-! ### How much is to come -/
def mu (p : Int × Int) (N : Int) : Nat := (2 * max (p.2 - p.1 - 1) 0 + 2 * (N - p.1) + if p.2 ≤ p.1 then 2 else 0).toNat
def wt (g : Gr) (f : Int) (x : Ms) : Nat := (if x.kind = 0 ∨ x.kind = 2 then 2 else 1) + if 2 ≤ x.kind ∧ (g.mb f).role = 2 then mu ((g.mb f).prAt (conv x)) (g.mb f).log.length else 0
def Wt (n : Nat) (f : Int) (g : Gr) : Nat := (g.net.map (wt g f)).sum + if (g.mb f).role = 1 then (4 * (g.mb f).log.length + 4) * n else 0
theorem wt_pos (g : Gr) (f : Int) (x : Ms) : 1 ≤ wt g f x := by unfold wt; split <;> omega
/-- A message stays what it is when others' terms rise no further than the leader's. -/
theorem Nx.keep {g g' : Gr} {f c : Int} {x : Ms} (q : Nx g f c x) (hF : g'.mb f = g.mb f) (ht : (g.mb x.frm).term ≤ (g'.mb x.frm).term) (hs : (g.mb x.frm).settled ≤ (g'.mb x.frm).settled) (he : (g.mb x.frm).term = (g.mb f).term → (g'.mb x.frm).term = (g.mb f).term) : Nx g' f c x := by
  refine ⟨q.out, q.inn, q.t1, Int.le_trans q.t2 ht, by rw [hF]; exact q.r1, by rw [hF]; exact q.r2, by rw [hF]; exact q.add, by rw [hF]; exact q.addr, fun h1 h2 h3 h4 => ?_, by rw [hF]; exact q.no⟩
  rw [hF] at h2 h3
  obtain ⟨y1, y2, y3⟩ := q.yes h1 h2 h3 h4
  rw [hF]
  exact ⟨he y1, y2, Int.le_trans y3 hs⟩
/-- What a leader knows of one is so. -/
theorem Se.preLog {n : Nat} {f c : Int} {Tc Nc : Nat} {g : Gr} {h : Gh} (s : Se n f c Tc Nc g h) (hr : (g.mb f).role = 2) {k : Int} (h1 : 1 ≤ k) (h2 : k ≤ (n : Int)) (ht : (g.mb k).term ≤ (g.mb f).term) :
    ((g.mb f).prAt k).1 ≤ ((g.mb k).log.length : Int) ∧ (g.mb k).log.take ((g.mb f).prAt k).1.toNat = (g.mb f).log.take ((g.mb f).prAt k).1.toNat := by
  have hm := s.many
  obtain ⟨oF, okF, eF, _⟩ := s.inv.here s.ok (i := f) s.f1.1 (by have := s.f1.2; omega)
  obtain ⟨oK, okK, eK, _⟩ := s.inv.here s.ok (i := k) h1 (by omega)
  have hma := oF.mat hr k h1 (by omega)
  have hll := (oF.led hr).2.1
  have hp := okF.mb.prAt k
  unfold Gr.mb at *
  generalize (g.at_ f).1 = F at *
  generalize (g.at_ k).1 = K at *
  by_cases q : (F.prAt k).1 = 0
  · rw [q]
    exact ⟨by omega, by simp⟩
  · have hac : (F.prAt k).1.toNat - 1 < h.ac K.id F.term := by rw [eK]; omega
    have hte : K.term = F.term := by
      by_cases e : K.term < F.term
      · have := (oK.fut _ e).2.1
        omega
      · omega
    rcases oK.keeps F.term ((F.prAt k).1.toNat - 1) hac with p | ⟨T', p1, p2, _⟩
    · have hlen := p.len
      have hpre := p.2
      rw [hll, show (F.prAt k).1.toNat - 1 + 1 = (F.prAt k).1.toNat by omega] at hpre
      exact ⟨by omega, hpre⟩
    · omega
/-- What is to be heard is heard. -/
theorem Se.hr {n : Nat} {f c : Int} {Tc Nc : Nat} {g : Gr} {h : Gh} (s : Se n f c Tc Nc g h) {x : Ms} (hx : x ∈ g.net) : Hr (g.mb x.dst) x := by
  have hm := s.ok.net x hx
  have nx := s.net x hx
  obtain ⟨oK, okK, eK, _⟩ := s.inv.here s.ok (i := x.dst) hm.dst.1 hm.dst.2
  obtain ⟨oS, okS, eS, _⟩ := s.inv.here s.ok (i := x.frm) hm.frm.1 hm.frm.2
  have hb := mayV_true okS.mb.ballot
  have h2 := nx.t2
  refine ⟨eK.symm, ⟨hm.frm.1, ?_⟩, ?_, ⟨nx.t1, ?_⟩, hm.kind⟩
  · have := okK.many
    have := hm.frm.2
    show x.frm ≤ ((g.at_ x.dst).1.prog.length : Int)
    omega
  · show x.frm ≠ (g.at_ x.dst).1.id
    rw [eK]
    have hk := hm.kind
    by_cases q : x.kind = 0 ∨ x.kind = 2
    · obtain ⟨e1, e2⟩ := nx.out q
      rw [e1]; exact fun e => e2 e.symm
    · obtain ⟨e1, e2⟩ := nx.inn (by omega)
      rw [e1]; exact e2
  · have h2 : x.term ≤ (g.at_ x.frm).1.term := h2
    omega
/-- What a member that is told says, and is. -/
structure Told (g : Gr) (f c : Int) (Tc Nc : Nat) (x : Ms) (m' : Mb) (y : Ms) : Prop where
  frm : y.frm = x.dst
  dst : y.dst = f
  yt : y.term = m'.term
  term : m'.term = max (g.mb x.dst).term x.term
  set : (g.mb x.dst).settled ≤ m'.settled
  bal : Bal Tc (g.mb x.dst) m'
  cost : (if commonN (g.mb x.dst).log m'.log < (g.mb x.dst).log.length then 1 else 0) + (m'.log.length - commonN (g.mb x.dst).log m'.log) + potL Nc (g.mb f).log m'.log ≤ potL Nc (g.mb f).log (g.mb x.dst).log
  len : m'.log.length ≤ Nc
  fair : ∀ e ∈ m'.log, EnFair e
  logs : m'.log = (g.mb x.dst).log ∨ m'.log = (g.mb f).log.take m'.log.length
  kind : (x.kind = 0 ∧ y.kind = 1 ∧ m'.log = (g.mb x.dst).log ∧ m'.settled = (g.mb x.dst).settled) ∨ (x.kind = 2 ∧ y.kind = 3 ∧ ((g.mb f).role = 2 → y.term = (g.mb f).term → (y.yes = true → y.index = x.index + x.ents.length ∧ min x.commit y.index ≤ m'.settled) ∧ (y.yes = false → ((g.mb f).prAt x.dst).1 + 2 ≤ ((g.mb f).prAt x.dst).2 ∧ ((g.mb f).prAt x.dst).1 ≤ y.index)))
theorem Se.told {n : Nat} {f c : Int} {Tc Nc : Nat} {g : Gr} {h : Gh} (s : Se n f c Tc Nc g h) {x : Ms} (hx : x ∈ g.net) (hk : x.kind = 0 ∨ x.kind = 2) : ∃ y, ((g.mb x.dst).hear x).2 = [y] ∧ Told g f c Tc Nc x ((g.mb x.dst).hear x).1 y ∧ (x.kind = 0 → ((g.mb x.dst).term < x.term ∨ ((g.mb x.dst).term = x.term ∧ ((g.mb x.dst).vote = 0 ∨ (g.mb x.dst).vote = x.frm))) → newerB x.index x.lterm ((g.mb x.dst).log.length : Int) (endT (g.mb x.dst).log 0) = true → y.yes = true) := by
  have hm := s.ok.net x hx
  have nx := s.net x hx
  have hr := s.hr hx
  obtain ⟨hfrm, hdst⟩ := nx.out hk
  have hd2 : x.dst ≤ (n : Int) := by have := hm.dst.2; have := s.many; omega
  have fK := s.fit x.dst hm.dst.1 hd2
  have fF := s.fit f s.f1.1 s.f1.2
  obtain ⟨oK, okK, eK, _⟩ := s.inv.here s.ok (i := x.dst) hm.dst.1 hm.dst.2
  obtain ⟨oF, okF, eF, _⟩ := s.inv.here s.ok (i := f) s.f1.1 (by have := s.f1.2; have := s.many; omega)
  have okK : InGr g.ms.length (g.mb x.dst) := okK
  have oK : Mi g.ms.length h (g.mb x.dst) := oK
  have eK : (g.mb x.dst).id = x.dst := eK
  have okF : InGr g.ms.length (g.mb f) := okF
  have oF : Mi g.ms.length h (g.mb f) := oF
  have eF : (g.mb f).id = f := eF
  have ht2 := nx.t2
  rw [hfrm] at ht2
  have hFt := fF.term
  have hKt := fK.term
  have hc : max (g.mb x.dst).term x.term ≤ (Tc : Int) := by
    have h1 : (g.mb f).term ≤ (Tc : Int) := hFt
    have h2 : (g.mb x.dst).term ≤ (Tc : Int) := hKt
    omega
  have hKl : (g.mb x.dst).log.length ≤ Nc := fK.len
  have hFl : (g.mb f).log.length ≤ Nc := fF.len
  rcases hk with hk | hk
  · obtain ⟨a1, a2, a3, a4, y, b1, b2, b3, b4, b5, b6⟩ := hear_ask okK.mb hr hk Tc hc
    refine ⟨y, b1, ⟨by rw [b3]; exact eK, by rw [b4]; exact hfrm, by rw [b5]; exact a3.symm, a3, by rw [a2]; exact Int.le_refl _, a4, by rw [a1]; exact stay_cost, by rw [a1]; exact hKl, by rw [a1]; exact fK.fair, .inl a1, .inl ⟨hk, b2, a1, a2⟩⟩, fun _ => b6⟩
  · have xi := s.inv.xi x hx
    obtain ⟨x1, x2, x3, x4⟩ := xi.add hk
    have hld : h.ld x.term ≠ 0 := by rw [x1]; have := hm.frm.1; omega
    have hents : ∀ e ∈ x.ents, e.1 ≤ x.term := fun e he => by
      have ha := nx.add hk
      obtain ⟨_, x5, _⟩ := x2 ha.i0
      rw [x5] at he
      exact s.inv.gi.le x.term hld e (List.mem_of_mem_drop (List.mem_of_mem_take he))
    have hr2 : (g.mb x.dst).term = x.term → (g.mb x.dst).role ≠ 2 := fun e1 e2 => by
      have := (oK.led e2).1
      rw [e1, eK, x1, hfrm] at this
      exact hdst this.symm
    obtain ⟨a1, a3, a4, y, b1, b2, b3, b4, b5, b6⟩ := hear_tell okK.mb hr hk oK.lm oF.lm okF.mb.rise okF.mb.len64 (nx.add hk) hents hr2 Tc hc
    have base : Told g f c Tc Nc x ((g.mb x.dst).hear x).1 y := by
      have hcost : (if commonN (g.mb x.dst).log ((g.mb x.dst).hear x).1.log < (g.mb x.dst).log.length then 1 else 0) + (((g.mb x.dst).hear x).1.log.length - commonN (g.mb x.dst).log ((g.mb x.dst).hear x).1.log) + potL Nc (g.mb f).log ((g.mb x.dst).hear x).1.log ≤ potL Nc (g.mb f).log (g.mb x.dst).log ∧ ((g.mb x.dst).hear x).1.log.length ≤ Nc ∧ ∀ e ∈ ((g.mb x.dst).hear x).1.log, EnFair e := by
        rcases b6 with ⟨_, e⟩ | ⟨_, _, _, ⟨cc, tk⟩, _, _⟩ | ⟨_, _, _, e, _⟩
        · have e : ((g.mb x.dst).hear x).1.log = (g.mb x.dst).log := e
          rw [e]; exact ⟨stay_cost, hKl, fK.fair⟩
        · have tk : Took (g.mb f).log (g.mb x.dst).log ((g.mb x.dst).hear x).1.log (x.index.toNat + x.ents.length) cc := tk
          refine ⟨merge_cost hFl hKl tk.cM tk.same tk.cL (by rcases tk.lie with e | ⟨e1, _, e3⟩; exact .inl e; exact .inr ⟨e1, e3⟩) tk.diff, ?_, ?_⟩
          · rcases tk.lie with e | ⟨e1, _, _⟩
            · rw [e]; exact hKl
            · have := congrArg List.length e1
              rw [List.length_take] at this
              omega
          · rcases tk.lie with e | ⟨e1, _, _⟩
            · rw [e]; exact fK.fair
            · rw [e1]; exact fun e he => fF.fair e (List.mem_of_mem_take he)
        · have e : ((g.mb x.dst).hear x).1.log = (g.mb x.dst).log := e
          rw [e]; exact ⟨stay_cost, hKl, fK.fair⟩
      refine ⟨by rw [b3]; exact eK, by rw [b4]; exact hfrm, by rw [b5]; exact a3.symm, a3, a1, a4, hcost.1, hcost.2.1, hcost.2.2, (by
        rcases b6 with ⟨_, e⟩ | ⟨_, _, _, ⟨cc, tk⟩, _, _⟩ | ⟨_, _, _, e, _⟩
        · exact .inl e
        · rcases tk.lie with e | ⟨e1, _, _⟩
          · exact .inl e
          · exact .inr e1
        · exact .inl e), .inr ⟨hk, b2, fun hrF hyt => ?_⟩⟩
      have hxF : x.term = (g.mb f).term := by have := nx.r2 hrF (by omega); omega
      have hKF : (g.mb x.dst).term ≤ (g.mb f).term := by
        have b5 : y.term = max (g.mb x.dst).term x.term := b5
        omega
      rcases b6 with ⟨e, _⟩ | ⟨e1, e2, e3, _, e5, _⟩ | ⟨e1, e2, e3, _, e5⟩
      · have e : x.term < (g.mb x.dst).term := e
        omega
      · exact ⟨fun _ => ⟨e3, e5⟩, fun q => (by rw [e2] at q; cases q)⟩
      · refine ⟨fun q => (by rw [e2] at q; cases q), fun _ => ?_⟩
        obtain ⟨p1, p2⟩ := s.preLog hrF hm.dst.1 hd2 hKF
        have hpr := ((s.lead hrF).pr x.dst hm.dst.1 hd2 hdst).1
        have hpa := okF.mb.prAt x.dst
        have had := (nx.addr hk hrF).1
        refine ⟨?_, by rw [e3]; exact p1⟩
        refine Classical.byContradiction fun hne => e5 ?_
        have hpa : 0 ≤ ((g.mb f).prAt x.dst).1 := hpa.1
        have hix : x.index.toNat ≤ ((g.mb f).prAt x.dst).1.toNat := by omega
        have p3 : (g.mb x.dst).log.take x.index.toNat = (g.mb f).log.take x.index.toNat := by
          have := congrArg (List.take x.index.toNat) p2
          rwa [List.take_take, List.take_take, Nat.min_eq_left hix] at this
        exact ⟨by show _ ≤ (g.mb x.dst).log.length; omega, by rw [p3]⟩
    exact ⟨y, b1, base, fun q => by omega⟩
end Go.Proofs.YthjdbmfobmnnlaaGreat

/-
  One is told: the next state.
-/
namespace Go.Proofs.YthjdbmfobmnnlaaGreat
open Go.RowKit
set_option linter.unusedVariables false
theorem wt_eq {g g' : Gr} {f : Int} (hF : g'.mb f = g.mb f) (x : Ms) : wt g' f x = wt g f x := by unfold wt; rw [hF]
/-- One is told: the next state. -/
theorem Se.toK {n : Nat} {f c : Int} {Tc Nc : Nat} {g : Gr} {h : Gh} (s : Se n f c Tc Nc g h) {x : Ms} {rest : List Ms} (hnet : g.net = x :: rest) (hk : x.kind = 0 ∨ x.kind = 2) :
    ∃ h', Ext h h' ∧ Se n f c Tc Nc (g.does 3 0 0 0).1 h' ∧ Wt n f (g.does 3 0 0 0).1 < Wt n f g ∧ (g.does 3 0 0 0).1.mb f = g.mb f ∧
      ∃ y, (g.does 3 0 0 0).1.net = rest ++ [y] ∧ Told g f c Tc Nc x ((g.mb x.dst).hear x).1 y ∧ (∀ j, 1 ≤ j → (g.does 3 0 0 0).1.mb j = if j = x.dst then ((g.mb x.dst).hear x).1 else g.mb j) ∧
        (x.kind = 0 → ((g.mb x.dst).term < x.term ∨ ((g.mb x.dst).term = x.term ∧ ((g.mb x.dst).vote = 0 ∨ (g.mb x.dst).vote = x.frm))) → newerB x.index x.lterm ((g.mb x.dst).log.length : Int) (endT (g.mb x.dst).log 0) = true → y.yes = true) := by
  have hx : x ∈ g.net := by rw [hnet]; exact List.mem_cons_self
  have hm := s.ok.net x hx
  have nx := s.net x hx
  obtain ⟨hfrm, hdst⟩ := nx.out hk
  have hd1 := hm.dst.1
  have hd2 : x.dst ≤ (n : Int) := by have := hm.dst.2; have := s.many; omega
  obtain ⟨y, hsaid, td, hgr⟩ := s.told hx hk
  have hfT : ((g.mb x.dst).hear x).1.term ≤ (Tc : Int) := by
    have h1 : (g.mb x.dst).term ≤ (Tc : Int) := (s.fit x.dst hd1 hd2).term
    have h2 : (g.mb f).term ≤ (Tc : Int) := (s.fit f s.f1.1 s.f1.2).term
    have h3 := nx.t2
    rw [hfrm] at h3
    rw [td.term]
    omega
  obtain ⟨h', D, e1, ok', inv', eg, fit'⟩ := s.deliver hnet (X' := (g.mb f).log) hfT td.len td.fair td.bal td.cost
  rw [hsaid] at eg
  have hms : (g.does 3 0 0 0).1.ms.length = n := by rw [eg]; show (g.set _ _).ms.length = n; rw [Gr.set_len]; exact s.many
  have hat : ∀ j, 1 ≤ j → (g.does 3 0 0 0).1.at_ j = if j = x.dst then (((g.mb x.dst).hear x).1, D) else g.at_ j := fun j hj => by
    rw [eg]; exact set_at hd1 hm.dst.2 hj _ _
  have hmb : ∀ j, 1 ≤ j → (g.does 3 0 0 0).1.mb j = if j = x.dst then ((g.mb x.dst).hear x).1 else g.mb j := fun j hj => by
    unfold Gr.mb
    rw [hat j hj]
    split <;> rfl
  have hnet' : (g.does 3 0 0 0).1.net = rest ++ [y] := by rw [eg]
  generalize (g.does 3 0 0 0).1 = g' at *
  have hF : g'.mb f = g.mb f := by rw [hmb f s.f1.1, if_neg (fun q => hdst q.symm)]
  have hK : g'.mb x.dst = ((g.mb x.dst).hear x).1 := by rw [hmb _ hd1, if_pos rfl]
  generalize ((g.mb x.dst).hear x).1 = m' at *
  have hxF : x.term ≤ (g.mb f).term := by have := nx.t2; rwa [hfrm] at this
  have hkeep : ∀ z ∈ rest, Nx g' f c z := fun z hz => by
    have hz' : z ∈ g.net := by rw [hnet]; exact List.mem_cons_of_mem _ hz
    have hzf := (s.ok.net z hz').frm.1
    refine (s.net z hz').keep hF ?_ ?_ ?_
    · rw [hmb _ hzf]
      split
      · rename_i q; rw [q, td.term]; omega
      · exact Int.le_refl _
    · rw [hmb _ hzf]
      split
      · rename_i q; rw [q]; exact td.set
      · exact Int.le_refl _
    · rw [hmb _ hzf]
      split
      · rename_i q; rw [q, td.term]; intro e; omega
      · exact id
  have hyfrm : y.frm = x.dst := td.frm
  have hny : Nx g' f c y := by
    have hyk : y.kind = 1 ∨ y.kind = 3 := by rcases td.kind with ⟨_, q, _⟩ | ⟨_, q, _⟩; exact .inl q; exact .inr q
    refine ⟨fun q => by omega, fun _ => ⟨td.dst, by rw [hyfrm]; exact hdst⟩, by rw [td.yt, td.term]; have := nx.t1; omega, by rw [hyfrm, hK, td.yt]; exact Int.le_refl _, fun q => ?_, fun q1 q2 => ?_, fun q => by omega, fun q => by omega, fun q1 q2 q3 q4 => ?_, fun q1 q2 q3 q4 => ?_⟩
    · rw [hF] at q
      have := nx.r1 q
      rcases td.kind with ⟨_, q, _⟩ | ⟨q, _⟩ <;> omega
    · rw [hF] at q1 ⊢
      rcases td.kind with ⟨_, q, _⟩ | ⟨q, _⟩
      · omega
      · have := nx.r2 q1 (by omega)
        rw [td.yt, td.term]
        omega
    · rw [hF] at q2 q3
      rcases td.kind with ⟨_, q, _⟩ | ⟨q, _, r⟩
      · omega
      · obtain ⟨r1, r2⟩ := (r q2 q3).1 q4
        obtain ⟨a1, a2, a3⟩ := nx.addr q q2
        rw [hyfrm, hF, hK]
        refine ⟨by rw [← td.yt]; exact q3, by omega, by omega⟩
    · rw [hF] at q2 q3
      rcases td.kind with ⟨_, q, _⟩ | ⟨q, _, r⟩
      · omega
      · have := (r q2 q3).2 q4
        rw [hyfrm, hF]
        exact this
  have hw : wt g' f y < wt g f x := by
    unfold wt
    rw [hF]
    rcases td.kind with ⟨q1, q2, _⟩ | ⟨q1, q2, _⟩
    · rw [if_neg (by omega), if_neg (by omega), if_pos (.inl q1), if_neg (by omega)]
      omega
    · have hc : conv y = conv x := by unfold conv; rw [if_neg (by omega), if_pos q1]; exact hyfrm
      rw [hc]
      by_cases q : (g.mb f).role = 2
      · rw [if_neg (by omega), if_pos ⟨by omega, q⟩, if_pos (.inr q1), if_pos ⟨by omega, q⟩]
        omega
      · rw [if_neg (by omega), if_neg (fun z => q z.2), if_pos (.inr q1), if_neg (fun z => q z.2)]
        omega
  have hun := s.uniq
  rw [hnet, List.pairwise_cons] at hun
  refine ⟨h', e1, ⟨ok', inv', hms, s.f1, s.nc, s.tc, fun k k1 k2 => ?_, by rw [hF]; exact s.room, fun z hz => ?_, ?_, by rw [hF]; exact s.set, fun hr => ?_, fun k k1 k2 => ?_⟩, ?_, hF, y, hnet', td, hmb, hgr⟩
  · rw [hF, hat k k1]
    split
    · exact fit'
    · exact s.fit k k1 k2
  · rw [hnet'] at hz
    rcases List.mem_append.1 hz with q | q
    · exact hkeep z q
    · rw [List.mem_singleton] at q; subst q; exact hny
  · rw [hnet', List.pairwise_append]
    refine ⟨hun.2, List.pairwise_singleton _ _, fun a ha b hb h1 h2 => ?_⟩
    rw [List.mem_singleton] at hb
    subst hb
    rcases td.kind with ⟨q1, q2, _⟩ | ⟨q1, q2, _⟩
    · omega
    · have hc : conv b = conv x := by unfold conv; rw [if_neg (by omega), if_pos q1]; exact hyfrm
      rw [hc]
      exact fun e => hun.1 a ha (by omega) h1 e.symm
  · rw [hF] at hr
    have l := s.lead hr
    refine ⟨by rw [hF]; exact l.one, by rw [hF]; exact l.last, by rw [hF]; exact l.sfix, by rw [hF]; exact l.own, by rw [hF]; exact l.pr, fun k k1 k2 k3 => ?_⟩
    rcases l.conv k k1 k2 k3 with d | ⟨z, z1, z2, z3⟩
    · by_cases q : k = x.dst
      · rcases td.kind with ⟨q1, q2, q3, q4⟩ | ⟨q1, q2, _⟩
        · left
          subst q
          refine ⟨by rw [hF]; exact d.nxt, by rw [hF]; exact d.mat, ?_, ?_⟩
          · rw [hF, hK, td.term]
            have := d.term
            omega
          · rw [hF, hK, q4]; exact d.set
        · right
          refine ⟨y, by rw [hnet']; simp, by omega, ?_⟩
          unfold conv
          rw [if_neg (by omega), hyfrm, q]
      · left
        have e : g'.mb k = g.mb k := by rw [hmb k k1, if_neg q]
        exact ⟨by rw [hF]; exact d.nxt, by rw [hF]; exact d.mat, by rw [hF, e]; exact d.term, by rw [hF, e]; exact d.set⟩
    · rw [hnet] at z1
      rcases List.mem_cons.1 z1 with q | q
      · subst q
        right
        rcases td.kind with ⟨q1, q2, _⟩ | ⟨q1, q2, _⟩
        · omega
        · refine ⟨y, by rw [hnet']; simp, by omega, ?_⟩
          unfold conv at z3 ⊢
          rw [if_pos q1] at z3
          rw [if_neg (by omega), hyfrm, z3]
      · exact .inr ⟨z, by rw [hnet']; exact List.mem_append_left _ q, z2, z3⟩
  · rw [hF]
    by_cases q : k = x.dst
    · right
      refine ⟨y, by rw [hnet']; simp, .inr ⟨by rcases td.kind with ⟨_, q, _⟩ | ⟨_, q, _⟩; exact .inl q; exact .inr q, by rw [hyfrm, q], ?_⟩⟩
      rw [q, hK, td.yt]
      exact Int.le_refl _
    · have e : g'.mb k = g.mb k := by rw [hmb k k1, if_neg q]
      rw [e]
      rcases s.terms k k1 k2 with t | ⟨z, z1, z2⟩
      · exact .inl t
      · rw [hnet] at z1
        rcases List.mem_cons.1 z1 with r | r
        · subst r
          rcases z2 with ⟨_, z4⟩ | ⟨z4, _⟩
          · exact (q z4.symm).elim
          · omega
        · exact .inr ⟨z, by rw [hnet']; exact List.mem_append_left _ r, z2⟩
  · unfold Wt
    rw [hnet', hnet, hF]
    simp only [List.map_append, List.map_cons, List.map_nil, List.sum_append, List.sum_cons, List.sum_nil]
    have e : rest.map (wt g' f) = rest.map (wt g f) := List.map_congr_left fun z _ => wt_eq hF z
    rw [e]
    omega
end Go.Proofs.YthjdbmfobmnnlaaGreat

/-
  Who leads, in plain terms.
-/
namespace Go.Proofs.YthjdbmfobmnnlaaGreat
open Go.RowKit
set_option linter.unusedVariables false
/-! ### Who leads, in plain terms -/
theorem commitGo_fix (B T : Int) (l : List En) (term s : Int) (h : ¬ (s < B ∧ T = term)) : ∀ K : Nat, commitGo B T l term (commitGo B T l term s K) K = commitGo B T l term s K
  | 0 => by
    have e : commitGo B T l term s 0 = s := by rw [commitGo, if_neg h]
    rw [e, e]
  | K + 1 => by
    have ih := commitGo_fix B T l term s h K
    by_cases h1 : s < B + ((K + 1 : Nat) : Int)
    · by_cases h2 : endT (l.take (K + 1)) T = term
      · have e : commitGo B T l term s (K + 1) = B + ((K + 1 : Nat) : Int) := by rw [commitGo, if_pos h1, if_pos h2]
        rw [e, commitGo, if_neg (Int.lt_irrefl _)]
      · have e : commitGo B T l term s (K + 1) = commitGo B T l term s K := by rw [commitGo, if_pos h1, if_neg h2]
        rw [e, commitGo, if_neg h2, ih]
        split <;> rfl
    · have e : commitGo B T l term s (K + 1) = s := by rw [commitGo, if_neg h1]
      rw [e, e]
theorem commitF_fix {es : List En} (hm : mayL 0 0 es = true) (ms : List Int) (term s : Int) (h0 : 0 ≤ s) : commitF 0 0 es ms term (commitF 0 0 es ms term s) = commitF 0 0 es ms term s := by
  unfold commitF
  rw [fairL_yes hm]
  simp only
  unfold commitAt
  split
  · rfl
  · exact commitGo_fix 0 0 es term s (by omega) _
theorem settle_fix {m : Mb} (ok : MbOk m) : m.settle.settle = m.settle := by
  unfold Mb.settle
  simp only
  rw [commitF_fix ok.log _ _ _ ok.set0]
theorem settle_of {m : Mb} {s : Int} (h : commitF 0 0 m.log (m.prog.map (·.1)) m.term m.settled = m.settled) : m.settle = m := by
  unfold Mb.settle
  rw [h]
theorem of_settle {m : Mb} (h : m.settle = m) : commitF 0 0 m.log (m.prog.map (·.1)) m.term m.settled = m.settled := by
  have := congrArg Mb.settled h
  exact this
theorem lead_prAt {m : Mb} (ok : MbOk m) (ht : 1 ≤ m.term) (hl : m.log.length < 64) {j : Int} (j1 : 1 ≤ j) (j2 : j ≤ m.prog.length) : m.lead.log = m.log ++ [(m.term, (0, 0, 0, 0, 0, 0))] ∧ (m.lead.prAt m.id).1 = (m.log.length : Int) + 1 ∧ (m.lead.prAt j).2 = (m.log.length : Int) + 1 ∧ (j ≠ m.id → (m.lead.prAt j).1 = 0) ∧ m.lead.settle = m.lead ∧ m.settled ≤ m.lead.settled ∧ m.lead.prog.length = m.prog.length := by
  have hlf := ok.lastF
  have i1 := ok.id1
  have i2 := ok.idn
  have hput : m.clear.put (0, 0, 0, 0, 0, 0) = { m.clear with log := m.log ++ [(m.term, (0, 0, 0, 0, 0, 0))] } := by
    unfold Mb.put
    rw [if_neg (show ¬ 64 ≤ m.clear.log.length by show ¬ 64 ≤ m.log.length; omega)]
    rfl
  have clr : ∀ i : Int, 1 ≤ i → i ≤ m.prog.length → m.clear.prAt i = (0, (m.log.length : Int) + 1) := fun i a b => by
    unfold Mb.prAt Mb.clear
    simp only
    rw [List.getD_eq_getElem?_getD, List.getElem?_map, List.getElem?_eq_getElem (show (i - 1).toNat < m.prog.length by omega), hlf]
    rfl
  have hpr : ∀ i : Int, m.lead.prAt i = ((m.clear.put (0, 0, 0, 0, 0, 0)).mark).prAt i := fun i => rfl
  have hmk : (m.clear.put (0, 0, 0, 0, 0, 0)).mark = (m.clear.put (0, 0, 0, 0, 0, 0)).setPr m.id ((lastF 0 0 (m.clear.put (0, 0, 0, 0, 0, 0)).log).1, ((m.clear.put (0, 0, 0, 0, 0, 0)).prAt m.id).2) := by
    unfold Mb.mark Mb.setPr
    rw [show (m.clear.put (0, 0, 0, 0, 0, 0)).id = m.id from (put_facts m.clear _).1]
  have hpp : ∀ i : Int, (m.clear.put (0, 0, 0, 0, 0, 0)).prAt i = m.clear.prAt i := fun i => by rw [hput]; rfl
  · have okp := (ok.clear ht).put ht (0, 0, 0, 0, 0, 0)
    have hlf2 := okp.lastF
    have hlen : (m.clear.put (0, 0, 0, 0, 0, 0)).log.length = m.log.length + 1 := by rw [hput]; simp
    have own : (m.lead.prAt m.id) = ((m.log.length : Int) + 1, (m.log.length : Int) + 1) := by
      rw [hpr, hmk]
      unfold Mb.prAt Mb.setPr
      simp only
      have hpl : (m.clear.put (0, 0, 0, 0, 0, 0)).prog.length = m.prog.length := by rw [hput]; simp [Mb.clear]
      rw [List.getD_eq_getElem?_getD, List.getElem?_set, if_pos rfl, if_pos (by omega), hlf2]
      simp only [Option.getD_some]
      have := congrArg Prod.snd ((hpp m.id).trans (clr m.id i1 i2))
      unfold Mb.prAt at this
      rw [this, hlen]
      simp
    have oth : ∀ i : Int, 1 ≤ i → i ≤ m.prog.length → i ≠ m.id → m.lead.prAt i = (0, (m.log.length : Int) + 1) := fun i a b q => by
      rw [hpr, hmk]
      rcases (m.clear.put (0, 0, 0, 0, 0, 0)).setPr_prAt (j := i) (k := m.id) a i1 ((lastF 0 0 (m.clear.put (0, 0, 0, 0, 0, 0)).log).1, ((m.clear.put (0, 0, 0, 0, 0, 0)).prAt m.id).2) with ⟨_, e⟩ | e
      · exact (q e).elim
      · rw [e, hpp, clr i a b]
    refine ⟨?_, by rw [own], ?_, fun q => by rw [oth j j1 j2 q], ?_, ?_, ?_⟩
    · show (m.clear.put (0, 0, 0, 0, 0, 0)).log = _
      rw [hput]
    · by_cases q : j = m.id
      · rw [q, own]
      · rw [oth j j1 j2 q]
    · exact settle_fix okp.mark
    · exact (lead_facts ok ht).2.2.2.1
    · exact (lead_facts ok ht).2.2.2.2
theorem toAll_len (id : Int) (f : Int → Ms) : ∀ k : Nat, (Mb.toAll id f k).length ≤ k
  | 0 => Nat.le_refl _
  | k + 1 => by
    have := toAll_len id f k
    rw [Mb.toAll, List.length_append]
    split <;> simp <;> omega
theorem toAll_has {id : Int} {f : Int → Ms} : ∀ {k : Nat} {j : Int}, 1 ≤ j → j ≤ (k : Int) → j ≠ id → f j ∈ Mb.toAll id f k
  | 0, j, h1, h2, _ => by omega
  | k + 1, j, h1, h2, h3 => by
    rw [Mb.toAll]
    by_cases q : j = (k : Int) + 1
    · rw [q] at h3 ⊢
      rw [if_neg h3]
      simp
    · exact List.mem_append_left _ (toAll_has h1 (by omega) h3)
theorem toAll_pair {id : Int} {f : Int → Ms} {R : Ms → Ms → Prop} (hR : ∀ i j : Int, i ≠ j → R (f i) (f j)) : ∀ k : Nat, (Mb.toAll id f k).Pairwise R
  | 0 => List.Pairwise.nil
  | k + 1 => by
    rw [Mb.toAll, List.pairwise_append]
    refine ⟨toAll_pair hR k, ?_, fun a ha b hb => ?_⟩
    · split
      · exact List.Pairwise.nil
      · exact List.pairwise_singleton _ _
    · obtain ⟨i, i1, i2, rfl⟩ := toAll_mem ha
      split at hb
      · cases hb
      · rw [List.mem_singleton] at hb
        subst hb
        exact hR _ _ (by omega)
end Go.Proofs.YthjdbmfobmnnlaaGreat

/-
  It hears what changes little.
-/
namespace Go.Proofs.YthjdbmfobmnnlaaGreat
open Go.RowKit
set_option linter.unusedVariables false
/-- The next state, when the one who speaks unasked has heard. -/
structure AtF (n : Nat) (f : Int) (Tc Nc : Nat) (g g' : Gr) (h' : Gh) (m' : Mb) (X' : List En) (net : List Ms) : Prop where
  ok : GrOk g'
  inv : Inv g' h'
  many : g'.ms.length = n
  mb : g'.mb f = m'
  oth : ∀ j, 1 ≤ j → j ≠ f → g'.mb j = g.mb j
  ato : ∀ j, 1 ≤ j → j ≠ f → g'.at_ j = g.at_ j
  fit : Fit Tc Nc X' (g'.at_ f)
  net : g'.net = net
theorem Se.atF {n : Nat} {f c : Int} {Tc Nc : Nat} {g : Gr} {h : Gh} (s : Se n f c Tc Nc g h) {x : Ms} {rest : List Ms} (hnet : g.net = x :: rest) (hk : x.kind = 1 ∨ x.kind = 3) {m' : Mb} {said : List Ms} {X' : List En} (hh : (g.mb f).hear x = (m', said))
    (ht : m'.term ≤ Tc) (hl : m'.log.length ≤ Nc) (hf : ∀ e ∈ m'.log, EnFair e) (hb : Bal Tc (g.mb f) m') (hlog : (if commonN (g.mb f).log m'.log < (g.mb f).log.length then 1 else 0) + (m'.log.length - commonN (g.mb f).log m'.log) + potL Nc X' m'.log ≤ potL Nc (g.mb f).log (g.mb f).log) :
    ∃ h', Ext h h' ∧ AtF n f Tc Nc g (g.does 3 0 0 0).1 h' m' X' (rest ++ said) := by
  have hx : x ∈ g.net := by rw [hnet]; exact List.mem_cons_self
  have hm := s.ok.net x hx
  obtain ⟨hd, _⟩ := (s.net x hx).inn hk
  have e1 : ((g.mb x.dst).hear x).1 = m' := by rw [hd, hh]
  have e2 : ((g.mb x.dst).hear x).2 = said := by rw [hd, hh]
  obtain ⟨h', D, ex, ok', inv', eg, fit'⟩ := s.deliver hnet (X' := X') (by rw [e1]; exact ht) (by rw [e1]; exact hl) (by rw [e1]; exact hf) (by rw [e1, hd]; exact hb) (by rw [e1, hd]; exact hlog)
  rw [e1, e2, hd] at eg
  rw [e1] at fit'
  have hat : ∀ j, 1 ≤ j → (g.does 3 0 0 0).1.at_ j = if j = f then (m', D) else g.at_ j := fun j hj => by
    rw [eg]; exact set_at s.f1.1 (by have := s.f1.2; have := s.many; omega) hj _ _
  refine ⟨h', ex, ok', inv', by rw [eg]; show (g.set _ _).ms.length = n; rw [Gr.set_len]; exact s.many, ?_, fun j j1 j2 => ?_, fun j j1 j2 => ?_, ?_, by rw [eg]⟩
  · unfold Gr.mb; rw [hat f s.f1.1, if_pos rfl]
  · unfold Gr.mb; rw [hat j j1, if_neg j2]
  · rw [hat j j1, if_neg j2]
  · rw [hat f s.f1.1, if_pos rfl]; exact fit'
/-- What is left of the terms. -/
theorem Se.termsF {n : Nat} {f c : Int} {Tc Nc : Nat} {g g' : Gr} {h h' : Gh} (s : Se n f c Tc Nc g h) {x : Ms} {rest said : List Ms} {m' : Mb} {X' : List En} (hnet : g.net = x :: rest) (a : AtF n f Tc Nc g g' h' m' X' (rest ++ said)) (h1 : (g.mb f).term ≤ m'.term) (h2 : x.term ≤ m'.term) (hk : x.kind = 1 ∨ x.kind = 3) :
    ∀ k, 1 ≤ k → k ≤ (n : Int) → (g'.mb k).term ≤ (g'.mb f).term ∨ ∃ z ∈ g'.net, ((z.kind = 0 ∨ z.kind = 2) ∧ z.dst = k) ∨ ((z.kind = 1 ∨ z.kind = 3) ∧ z.frm = k ∧ (g'.mb k).term ≤ z.term) := by
  intro k k1 k2
  by_cases q : k = f
  · rw [q]; exact .inl (Int.le_refl _)
  rw [a.mb, a.oth k k1 q]
  rcases s.terms k k1 k2 with t | ⟨z, z1, z2⟩
  · exact .inl (by omega)
  · rw [hnet] at z1
    rcases List.mem_cons.1 z1 with r | r
    · subst r
      rcases z2 with ⟨z4, _⟩ | ⟨_, _, z4⟩
      · omega
      · exact .inl (by omega)
    · exact .inr ⟨z, by rw [a.net]; exact List.mem_append_left _ r, z2⟩
theorem sum_le_map {l : List Ms} {p q : Ms → Nat} (h : ∀ z ∈ l, p z ≤ q z) : (l.map p).sum ≤ (l.map q).sum := by
  induction l with
  | nil => exact Nat.le_refl _
  | cons a l ih =>
    rw [List.map_cons, List.map_cons, List.sum_cons, List.sum_cons]
    have h1 := h a List.mem_cons_self
    have h2 := ih fun z hz => h z (List.mem_cons_of_mem _ hz)
    omega
/-- It hears what changes nothing but its ballot, its role and its votes. -/
theorem Se.quiet {n : Nat} {f c : Int} {Tc Nc : Nat} {g : Gr} {h : Gh} (s : Se n f c Tc Nc g h) {x : Ms} {rest : List Ms} (hnet : g.net = x :: rest) (hk : x.kind = 1 ∨ x.kind = 3) {m' : Mb} (hh : (g.mb f).hear x = (m', []))
    (hb : Bal Tc (g.mb f) m') (ht : m'.term ≤ Tc) (h1 : (g.mb f).term ≤ m'.term) (h2 : x.term ≤ m'.term) (e1 : m'.log = (g.mb f).log) (e2 : m'.settled = (g.mb f).settled) (hr : m'.role = 0 ∨ (m'.role = (g.mb f).role ∧ ((g.mb f).role = 2 → x.kind = 1 ∧ m' = g.mb f))) :
    ∃ h', Ext h h' ∧ Se n f c Tc Nc (g.does 3 0 0 0).1 h' ∧ Wt n f (g.does 3 0 0 0).1 < Wt n f g ∧ AtF n f Tc Nc g (g.does 3 0 0 0).1 h' m' (g.mb f).log (rest ++ []) := by
  have fF := s.fit f s.f1.1 s.f1.2
  obtain ⟨h', ex, a⟩ := s.atF hnet hk hh (X' := (g.mb f).log) ht (by rw [e1]; exact fF.len) (by rw [e1]; exact fF.fair) hb (by rw [e1]; exact stay_cost)
  have htm := s.termsF hnet a h1 h2 hk
  have r2 : m'.role = 2 → (g.mb f).role = 2 ∧ x.kind = 1 ∧ m' = g.mb f := fun q => by
    rcases hr with r | ⟨r1, r2⟩
    · omega
    · have := r1.symm.trans q
      exact ⟨this, r2 this⟩
  have r1 : m'.role = 1 → (g.mb f).role = 1 := fun q => by
    rcases hr with r | ⟨r1, r2⟩
    · omega
    · omega
  have hun := s.uniq
  rw [hnet, List.pairwise_cons] at hun
  have hfr : ∀ z ∈ g.net, (g.mb z.frm).term ≤ ((g.does 3 0 0 0).1.mb z.frm).term ∧ (z.frm ≠ f → (g.does 3 0 0 0).1.mb z.frm = g.mb z.frm) := fun z hz => by
    have := (s.ok.net z hz).frm.1
    by_cases q : z.frm = f
    · rw [q, a.mb]; exact ⟨h1, fun z => (z rfl).elim⟩
    · rw [a.oth _ this q]; exact ⟨Int.le_refl _, fun _ => rfl⟩
  refine ⟨h', ex, ⟨a.ok, a.inv, a.many, s.f1, s.nc, s.tc, fun k k1 k2 => ?_, ?_, fun z hz => ?_, ?_, ?_, fun q => ?_, htm⟩, ?_, a⟩
  · rw [a.mb, e1]
    by_cases q : k = f
    · rw [q]; exact a.fit
    · rw [a.ato k k1 q]; exact s.fit k k1 k2
  · rw [a.mb, e1]
    exact fun q => s.room (r1 q)
  · rw [a.net, List.append_nil] at hz
    have hz' : z ∈ g.net := by rw [hnet]; exact List.mem_cons_of_mem _ hz
    have nz := s.net z hz'
    obtain ⟨t1, t2⟩ := hfr z hz'
    refine ⟨nz.out, nz.inn, nz.t1, Int.le_trans nz.t2 t1, fun q => ?_, fun q1 q2 => ?_, fun q => by rw [a.mb, e1]; exact nz.add q, fun q1 q2 => ?_, fun q1 q2 q3 q4 => ?_, fun q1 q2 q3 q4 => ?_⟩
    · rw [a.mb] at q; exact nz.r1 (r1 q)
    · rw [a.mb] at q1 ⊢
      obtain ⟨u1, _, u3⟩ := r2 q1
      rw [u3]; exact nz.r2 u1 q2
    · rw [a.mb] at q2 ⊢
      obtain ⟨u1, _, u3⟩ := r2 q2
      rw [u3]; exact nz.addr q1 u1
    · rw [a.mb] at q2 q3 ⊢
      obtain ⟨u1, _, u3⟩ := r2 q2
      rw [u3] at q3 ⊢
      rw [t2 (nz.inn (.inr q1)).2]
      exact nz.yes q1 u1 q3 q4
    · rw [a.mb] at q2 q3 ⊢
      obtain ⟨u1, _, u3⟩ := r2 q2
      rw [u3] at q3 ⊢
      exact nz.no q1 u1 q3 q4
  · rw [a.net, List.append_nil]; exact hun.2
  · rw [a.mb, e2]; exact s.set
  · rw [a.mb] at q
    obtain ⟨u1, u2, u3⟩ := r2 q
    have l := s.lead u1
    have eF : (g.does 3 0 0 0).1.mb f = g.mb f := by rw [a.mb, u3]
    refine ⟨by rw [eF]; exact l.one, by rw [eF]; exact l.last, by rw [eF]; exact l.sfix, by rw [eF]; exact l.own, by rw [eF]; exact l.pr, fun k k1 k2 k3 => ?_⟩
    rcases l.conv k k1 k2 k3 with d | ⟨z, z1, z2, z3⟩
    · left
      exact ⟨by rw [eF]; exact d.nxt, by rw [eF]; exact d.mat, by rw [eF, a.oth k k1 k3]; exact d.term, by rw [eF, a.oth k k1 k3]; exact d.set⟩
    · rw [hnet] at z1
      rcases List.mem_cons.1 z1 with r | r
      · subst r; omega
      · exact .inr ⟨z, by rw [a.net, List.append_nil]; exact r, z2, z3⟩
  · unfold Wt
    rw [a.net, List.append_nil, hnet, List.map_cons, List.sum_cons, a.mb, e1]
    have hp := wt_pos g f x
    have hle : (rest.map (wt (g.does 3 0 0 0).1 f)).sum ≤ (rest.map (wt g f)).sum := sum_le_map fun z _ => by
      unfold wt
      rw [a.mb]
      refine Nat.add_le_add_left ?_ _
      by_cases q : 2 ≤ z.kind ∧ m'.role = 2
      · obtain ⟨u1, u2, u3⟩ := r2 q.2
        rw [if_pos q, if_pos ⟨q.1, u1⟩, u3]
        exact Nat.le_refl _
      · rw [if_neg q]
        exact Nat.zero_le _
    have hro : (if m'.role = 1 then (4 * (g.mb f).log.length + 4) * n else 0) ≤ (if (g.mb f).role = 1 then (4 * (g.mb f).log.length + 4) * n else 0) := by
      by_cases q : m'.role = 1
      · rw [if_pos q, if_pos (r1 q)]; exact Nat.le_refl _
      · rw [if_neg q]; exact Nat.zero_le _
    omega
end Go.Proofs.YthjdbmfobmnnlaaGreat

/-
  It leads.
-/
namespace Go.Proofs.YthjdbmfobmnnlaaGreat
open Go.RowKit
set_option linter.unusedVariables false
theorem sum_le_len {l : List Ms} {p : Ms → Nat} {b : Nat} (h : ∀ z ∈ l, p z ≤ b) : (l.map p).sum ≤ b * l.length := by
  induction l with
  | nil => exact Nat.le_refl _
  | cons a l ih =>
    rw [List.map_cons, List.sum_cons, List.length_cons, Nat.mul_succ]
    have h1 := h a List.mem_cons_self
    have h2 := ih fun z hz => h z (List.mem_cons_of_mem _ hz)
    omega
/-- It has the votes of most, and leads. -/
theorem Se.leads {n : Nat} {f c : Int} {Tc Nc : Nat} {g : Gr} {h : Gh} (s : Se n f c Tc Nc g h) {x : Ms} {rest : List Ms} (hnet : g.net = x :: rest) (hk : x.kind = 1) (hr : (g.mb f).role = 1) (hh : (g.mb f).hear x = (((g.mb f).counted x).lead, ((g.mb f).counted x).lead.adds)) (hxt : x.term ≤ (g.mb f).term) :
    ∃ h', Ext h h' ∧ Se n f c Tc Nc (g.does 3 0 0 0).1 h' ∧ Wt n f (g.does 3 0 0 0).1 < Wt n f g ∧ AtF n f Tc Nc g (g.does 3 0 0 0).1 h' ((g.mb f).counted x).lead ((g.mb f).log ++ [((g.mb f).term, (0, 0, 0, 0, 0, 0))]) (rest ++ ((g.mb f).counted x).lead.adds) := by
  have hx : x ∈ g.net := by rw [hnet]; exact List.mem_cons_self
  have hm := s.ok.net x hx
  have fF := s.fit f s.f1.1 s.f1.2
  obtain ⟨oF, okF, eF, _⟩ := s.inv.here s.ok (i := f) s.f1.1 (by have := s.f1.2; have := s.many; omega)
  have okF : InGr g.ms.length (g.mb f) := okF
  have eF : (g.mb f).id = f := eF
  have ht : 1 ≤ (g.mb f).term := okF.mb.live (by omega)
  have hfr : 1 ≤ x.frm ∧ x.frm ≤ 16 := by have := hm.frm; have := s.ok.n16; omega
  have okC := okF.mb.counted x hfr
  have hN : (g.mb f).log.length < Nc := s.room hr
  have hN64 : (g.mb f).log.length < 64 := by have := s.nc; omega
  have hpl : (g.mb f).prog.length = n := by rw [okF.many]; exact s.many
  have L := fun (j : Int) (j1 : 1 ≤ j) (j2 : j ≤ (n : Int)) => lead_prAt okC ht hN64 j1 (by show j ≤ ((g.mb f).prog.length : Int); omega)
  have Lf := L f s.f1.1 s.f1.2
  have Llog : ((g.mb f).counted x).lead.log = (g.mb f).log ++ [((g.mb f).term, (0, 0, 0, 0, 0, 0))] := Lf.1
  have Lown : (((g.mb f).counted x).lead.prAt f).1 = ((g.mb f).log.length : Int) + 1 := by have := Lf.2.1; rwa [show ((g.mb f).counted x).id = f from eF] at this
  have Lnx : ∀ j, 1 ≤ j → j ≤ (n : Int) → (((g.mb f).counted x).lead.prAt j).2 = ((g.mb f).log.length : Int) + 1 := fun j j1 j2 => (L j j1 j2).2.2.1
  have Lma : ∀ j, 1 ≤ j → j ≤ (n : Int) → j ≠ f → (((g.mb f).counted x).lead.prAt j).1 = 0 := fun j j1 j2 j3 => (L j j1 j2).2.2.2.1 (by rw [show ((g.mb f).counted x).id = f from eF]; exact j3)
  have Lfix : ((g.mb f).counted x).lead.settle = ((g.mb f).counted x).lead := Lf.2.2.2.2.1
  have Lset : (g.mb f).settled ≤ ((g.mb f).counted x).lead.settled := Lf.2.2.2.2.2.1
  have Lmany : ((g.mb f).counted x).lead.prog.length = n := by have := Lf.2.2.2.2.2.2; rw [this]; exact hpl
  have Lrole : ((g.mb f).counted x).lead.role = 2 := lead_role _
  obtain ⟨Lid, Lterm, Lvote⟩ := lead_ballot ((g.mb f).counted x)
  have Lid : ((g.mb f).counted x).lead.id = f := Lid.trans eF
  have Lterm : ((g.mb f).counted x).lead.term = (g.mb f).term := Lterm
  have Lvote : ((g.mb f).counted x).lead.vote = (g.mb f).vote := Lvote
  generalize ((g.mb f).counted x).lead = m' at *
  have hfair : ∀ e ∈ m'.log, EnFair e := fun e he => by
    rw [Llog] at he
    rcases List.mem_append.1 he with q | q
    · exact fF.fair e q
    · rw [List.mem_singleton] at q
      subst q
      unfold EnFair Fair
      intro v hv
      simp only [List.mem_cons, List.not_mem_nil, or_false] at hv
      rcases hv with rfl | rfl | rfl | rfl | rfl | rfl <;> decide
  have hlen : m'.log.length = (g.mb f).log.length + 1 := by rw [Llog]; simp
  obtain ⟨h', ex, a⟩ := s.atF hnet (.inl hk) hh (X' := m'.log) (by rw [Lterm]; exact fF.term) (by omega) hfair (.inl ⟨Lterm, Lvote⟩) (by rw [Llog]; exact put_cost hN)
  obtain ⟨_, okL, _, _⟩ := a.inv.here a.ok (i := f) s.f1.1 (by have := s.f1.2; have := a.many; omega)
  have okL : InGr (g.does 3 0 0 0).1.ms.length ((g.does 3 0 0 0).1.mb f) := okL
  rw [a.mb] at okL
  have htm := s.termsF hnet a (by rw [Lterm]; exact Int.le_refl _) (by rw [Lterm]; exact hxt) (.inl hk)
  have hrk : ∀ z ∈ rest, z.kind ≤ 1 := fun z hz => (s.net z (by rw [hnet]; exact List.mem_cons_of_mem _ hz)).r1 hr
  have hadd : ∀ z ∈ m'.adds, ∃ k : Int, 1 ≤ k ∧ k ≤ (n : Int) ∧ k ≠ f ∧ z = m'.addn k := fun z hz => by
    obtain ⟨k, k1, k2, k3⟩ := toAll_mem hz
    exact ⟨(k : Int) + 1, by omega, by omega, by rw [← Lid]; exact k2, k3⟩
  have hac : ∀ k, 1 ≤ k → k ≤ (n : Int) → k ≠ f → AddC m'.log (m'.addn k) ∧ (m'.addn k).index = (m'.prAt k).2 - 1 ∧ ((m'.addn k).ents.length : Int) = min 8 (m'.log.length - ((m'.prAt k).2 - 1)) ∧ (m'.addn k).commit = m'.settled := fun k k1 k2 k3 => by
    have := Lnx k k1 k2
    exact addn_c okL.mb (by omega) (by omega)
  have hun := s.uniq
  rw [hnet, List.pairwise_cons] at hun
  have hfitF := a.fit
  refine ⟨h', ex, ⟨a.ok, a.inv, a.many, s.f1, s.nc, s.tc, fun k k1 k2 => ?_, ?_, fun z hz => ?_, ?_, ?_, fun _ => ?_, htm⟩, ?_, by rw [← Llog]; exact a⟩
  · rw [a.mb]
    by_cases q : k = f
    · rw [q]; exact a.fit
    · rw [a.ato k k1 q, Llog]; exact (s.fit k k1 k2).grow hN
  · rw [a.mb, Lrole]; exact fun q => absurd q (by decide)
  · rw [a.net] at hz
    rcases List.mem_append.1 hz with q | q
    · have hz' : z ∈ g.net := by rw [hnet]; exact List.mem_cons_of_mem _ q
      have nz := s.net z hz'
      have hzk := hrk z q
      have t1 : (g.mb z.frm).term ≤ ((g.does 3 0 0 0).1.mb z.frm).term := by
        by_cases r : z.frm = f
        · rw [r, a.mb, Lterm]; exact Int.le_refl _
        · rw [a.oth _ (s.ok.net z hz').frm.1 r]; exact Int.le_refl _
      exact ⟨nz.out, nz.inn, nz.t1, Int.le_trans nz.t2 t1, fun _ => hzk, fun _ _ => by omega, fun _ => by omega, fun _ => by omega, fun _ => by omega, fun _ => by omega⟩
    · obtain ⟨k, k1, k2, k3, rfl⟩ := hadd z q
      obtain ⟨c1, c2, c3, c4⟩ := hac k k1 k2 k3
      have kk : (m'.addn k).kind = 2 := rfl
      have kf : (m'.addn k).frm = f := Lid
      have kt : (m'.addn k).term = (g.mb f).term := Lterm
      refine ⟨fun _ => ⟨kf, k3⟩, fun q => by omega, by omega, by rw [kf, a.mb, kt, Lterm]; exact Int.le_refl _, fun q => ?_, fun _ _ => by rw [a.mb, kt, Lterm]; exact Int.le_refl _, fun _ => by rw [a.mb]; exact c1, fun _ _ => ?_, fun q => by omega, fun q => by omega⟩
      · rw [a.mb, Lrole] at q; exact absurd q (by decide)
      · rw [a.mb]
        refine ⟨c2, by rw [c2]; exact c3, ?_⟩
        rw [c4]
        have := s.set.2
        omega
  · rw [a.net, List.pairwise_append]
    refine ⟨hun.2, ?_, fun u hu v hv h1 _ => by have := hrk u hu; omega⟩
    exact toAll_pair (f := m'.addn) (R := fun x y => 2 ≤ x.kind → 2 ≤ y.kind → conv x ≠ conv y) (fun i j hij _ _ => by show i ≠ j; exact hij) _
  · rw [a.mb]
    have := s.set
    omega
  · refine ⟨by rw [a.mb]; omega, by rw [a.mb, Llog, endT_snoc, Lterm], by rw [a.mb]; exact Lfix, by rw [a.mb, Lown, hlen]; omega, fun k k1 k2 k3 => ?_, fun k k1 k2 k3 => ?_⟩
    · rw [a.mb, Lma k k1 k2 k3, Lnx k k1 k2]; omega
    · right
      refine ⟨m'.addn k, ?_, by show (2 : Int) ≤ 2; decide, rfl⟩
      rw [a.net]
      refine List.mem_append_right _ (toAll_has k1 (by omega) (by rw [Lid]; exact k3))
  · unfold Wt
    rw [a.net, hnet, List.map_append, List.sum_append, List.map_cons, List.sum_cons, a.mb, if_neg (by omega), if_pos hr]
    have hp := wt_pos g f x
    have hle : (rest.map (wt (g.does 3 0 0 0).1 f)).sum ≤ (rest.map (wt g f)).sum := sum_le_map fun z hz => by
      have := hrk z hz
      unfold wt
      rw [if_neg (show ¬ (2 ≤ z.kind ∧ ((g.does 3 0 0 0).1.mb f).role = 2) from fun q => by omega), if_neg (show ¬ (2 ≤ z.kind ∧ (g.mb f).role = 2) from fun q => by omega)]
      exact Nat.le_refl _
    have hle2 : (m'.adds.map (wt (g.does 3 0 0 0).1 f)).sum ≤ (4 * (g.mb f).log.length + 4) * m'.adds.length := sum_le_len fun z hz => by
      obtain ⟨k, k1, k2, k3, rfl⟩ := hadd z hz
      have kc : conv (m'.addn k) = k := rfl
      have kk : (m'.addn k).kind = 2 := rfl
      unfold wt
      rw [a.mb, kk, kc, if_pos (.inr rfl), if_pos ⟨Int.le_refl _, Lrole⟩]
      unfold mu
      rw [Lma k k1 k2 k3, Lnx k k1 k2, hlen]
      split <;> omega
    have hla : m'.adds.length ≤ n := by have := toAll_len m'.id m'.addn m'.prog.length; rw [Lmany] at this; unfold Mb.adds; rw [Lmany]; exact this
    have : (4 * (g.mb f).log.length + 4) * m'.adds.length ≤ (4 * (g.mb f).log.length + 4) * n := Nat.mul_le_mul_left _ hla
    omega
end Go.Proofs.YthjdbmfobmnnlaaGreat

/-
  It goes on.
-/
namespace Go.Proofs.YthjdbmfobmnnlaaGreat
open Go.RowKit
set_option linter.unusedVariables false
theorem setPr_get (m : Mb) {k : Int} (h2 : (k - 1).toNat < m.prog.length) (p : Int × Int) : (m.setPr k p).prAt k = p := by
  unfold Mb.prAt Mb.setPr
  simp only
  rw [List.getD_eq_getElem?_getD, List.getElem?_set, if_pos rfl, if_pos h2]
  rfl
theorem setPr_fst (m : Mb) {k : Int} {p : Int × Int} (hp : p.1 = (m.prAt k).1) : (m.setPr k p).prog.map (·.1) = m.prog.map (·.1) := by
  show (m.prog.set (k - 1).toNat p).map (·.1) = m.prog.map (·.1)
  apply List.ext_getElem?
  intro i
  rw [List.getElem?_map, List.getElem?_map, List.getElem?_set]
  split
  · rename_i e
    split
    · rename_i hl
      rw [← e, List.getElem?_eq_getElem hl]
      simp only [Option.map_some]
      rw [hp]
      unfold Mb.prAt
      rw [List.getD_eq_getElem?_getD, List.getElem?_eq_getElem hl]
      rfl
    · rename_i hl
      rw [List.getElem?_eq_none (by omega)]
  · rfl
theorem Mb.settle_prAt (m : Mb) (k : Int) : m.settle.prAt k = m.prAt k := rfl
/-- It hears of what was added, and goes on. -/
theorem Se.goesOn {n : Nat} {f c : Int} {Tc Nc : Nat} {g : Gr} {h : Gh} (s : Se n f c Tc Nc g h) {x : Ms} {rest : List Ms} (hnet : g.net = x :: rest) (hk : x.kind = 3) (hr : (g.mb f).role = 2) {m' : Mb} {said : List Ms} (hh : (g.mb f).hear x = (m', said)) (hxt : x.term = (g.mb f).term)
    (l : m'.log = (g.mb f).log) (t : m'.term = (g.mb f).term) (v : m'.vote = (g.mb f).vote) (r : m'.role = 2) (idd : m'.id = f) (st : (g.mb f).settled ≤ m'.settled) (fx : m'.settle = m') {a' b' : Int} (pk : m'.prAt x.frm = (b', a')) (po : ∀ j, 1 ≤ j → j ≠ x.frm → m'.prAt j = (g.mb f).prAt j) (ba : b' < a') (b0 : 0 ≤ b') (aN : a' ≤ ((g.mb f).log.length : Int) + 1)
    (sd : (said = [] ∧ a' = ((g.mb f).log.length : Int) + 1 ∧ b' = ((g.mb f).log.length : Int) ∧ (g.mb x.frm).term = (g.mb f).term ∧ min c (g.mb f).log.length ≤ (g.mb x.frm).settled) ∨ (said = [m'.addn x.frm] ∧ mu (b', a') (g.mb f).log.length + 2 < mu ((g.mb f).prAt x.frm) (g.mb f).log.length + 1)) :
    ∃ h', Ext h h' ∧ Se n f c Tc Nc (g.does 3 0 0 0).1 h' ∧ Wt n f (g.does 3 0 0 0).1 < Wt n f g ∧ AtF n f Tc Nc g (g.does 3 0 0 0).1 h' m' (g.mb f).log (rest ++ said) := by
  have hx : x ∈ g.net := by rw [hnet]; exact List.mem_cons_self
  have hm := s.ok.net x hx
  have nx := s.net x hx
  have hxf := (nx.inn (.inr hk)).2
  have hf1 := hm.frm.1
  have hf2 : x.frm ≤ (n : Int) := by have := hm.frm.2; have := s.many; omega
  have fF := s.fit f s.f1.1 s.f1.2
  obtain ⟨h', ex, a⟩ := s.atF hnet (.inr hk) hh (X' := (g.mb f).log) (by rw [t]; exact fF.term) (by rw [l]; exact fF.len) (by rw [l]; exact fF.fair) (.inl ⟨t, v⟩) (by rw [l]; exact stay_cost)
  obtain ⟨_, okL, _, _⟩ := a.inv.here a.ok (i := f) s.f1.1 (by have := s.f1.2; have := a.many; omega)
  have okL : InGr (g.does 3 0 0 0).1.ms.length ((g.does 3 0 0 0).1.mb f) := okL
  rw [a.mb] at okL
  have htm := s.termsF hnet a (by rw [t]; exact Int.le_refl _) (by rw [t]; omega) (.inr hk)
  have ld := s.lead hr
  have hun := s.uniq
  rw [hnet, List.pairwise_cons] at hun
  have hcx : conv x = x.frm := by unfold conv; rw [if_neg (by omega)]
  have hother : ∀ z ∈ rest, 2 ≤ z.kind → conv z ≠ x.frm := fun z hz hz2 e => hun.1 z hz (by omega) hz2 (by rw [hcx, e])
  have hsaid : ∀ z ∈ said, z = m'.addn x.frm := fun z hz => by
    rcases sd with ⟨e, _⟩ | ⟨e, _⟩
    · rw [e] at hz; cases hz
    · rw [e, List.mem_singleton] at hz; exact hz
  obtain ⟨c1, c2, c3, c4⟩ := addn_c okL.mb (k := x.frm) (by rw [pk]; show 1 ≤ a'; omega) (by rw [pk, l]; exact aN)
  have kk : (m'.addn x.frm).kind = 2 := rfl
  have kc : conv (m'.addn x.frm) = x.frm := rfl
  have kt : (m'.addn x.frm).term = (g.mb f).term := t
  have kf : (m'.addn x.frm).frm = f := idd
  have hlive : 1 ≤ (g.mb f).term := by rw [← hxt]; exact nx.t1
  refine ⟨h', ex, ⟨a.ok, a.inv, a.many, s.f1, s.nc, s.tc, fun k k1 k2 => ?_, ?_, fun z hz => ?_, ?_, ?_, fun _ => ?_, htm⟩, ?_, a⟩
  · rw [a.mb, l]
    by_cases q : k = f
    · rw [q]; exact a.fit
    · rw [a.ato k k1 q]; exact s.fit k k1 k2
  · rw [a.mb, r]; exact fun q => absurd q (by decide)
  · rw [a.net] at hz
    rcases List.mem_append.1 hz with q | q
    · have hz' : z ∈ g.net := by rw [hnet]; exact List.mem_cons_of_mem _ q
      have nz := s.net z hz'
      have hzm := s.ok.net z hz'
      have t1 : (g.mb z.frm).term ≤ ((g.does 3 0 0 0).1.mb z.frm).term := by
        by_cases e : z.frm = f
        · rw [e, a.mb, t]; exact Int.le_refl _
        · rw [a.oth _ hzm.frm.1 e]; exact Int.le_refl _
      refine ⟨nz.out, nz.inn, nz.t1, Int.le_trans nz.t2 t1, fun e => ?_, fun e1 e2 => ?_, fun e => by rw [a.mb, l]; exact nz.add e, fun e1 e2 => ?_, fun e1 e2 e3 e4 => ?_, fun e1 e2 e3 e4 => ?_⟩
      · rw [a.mb, r] at e; exact absurd e (by decide)
      · rw [a.mb, t]; exact nz.r2 hr e2
      · have ho := hother z q (by omega)
        have hcz : conv z = z.dst := by unfold conv; rw [if_pos e1]
        rw [hcz] at ho
        rw [a.mb, po _ hzm.dst.1 ho, l]
        exact nz.addr e1 hr
      · have ho := hother z q (by omega)
        have hcz : conv z = z.frm := by unfold conv; rw [if_neg (by omega)]
        rw [hcz] at ho
        rw [a.mb, t] at e3
        rw [a.mb, po _ hzm.frm.1 ho, l, t, a.oth _ hzm.frm.1 (nz.inn (.inr e1)).2]
        exact nz.yes e1 hr e3 e4
      · have ho := hother z q (by omega)
        have hcz : conv z = z.frm := by unfold conv; rw [if_neg (by omega)]
        rw [hcz] at ho
        rw [a.mb, t] at e3
        rw [a.mb, po _ hzm.frm.1 ho]
        exact nz.no e1 hr e3 e4
    · rw [hsaid z q]
      refine ⟨fun _ => ⟨kf, hxf⟩, fun e => by omega, by omega, by rw [kf, a.mb, kt, t]; exact Int.le_refl _, fun e => ?_, fun _ _ => by rw [a.mb, kt, t]; exact Int.le_refl _, fun _ => by rw [a.mb]; exact c1, fun _ _ => ?_, fun e => by omega, fun e => by omega⟩
      · rw [a.mb, r] at e; exact absurd e (by decide)
      · rw [a.mb]
        refine ⟨c2, by rw [c2]; exact c3, ?_⟩
        rw [c4]
        have := s.set.2
        omega
  · rw [a.net, List.pairwise_append]
    refine ⟨hun.2, ?_, fun u hu w hw h1 h2 => ?_⟩
    · rcases sd with ⟨e, _⟩ | ⟨e, _⟩
      · rw [e]; exact List.Pairwise.nil
      · rw [e]; exact List.pairwise_singleton _ _
    · rw [hsaid w hw, kc]
      exact hother u hu h1
  · rw [a.mb]
    have := s.set
    omega
  · refine ⟨by rw [a.mb, l]; exact ld.one, by rw [a.mb, l, t]; exact ld.last, by rw [a.mb]; exact fx, by rw [a.mb, l, po f s.f1.1 (fun e => hxf e.symm)]; exact ld.own, fun k k1 k2 k3 => ?_, fun k k1 k2 k3 => ?_⟩
    · rw [a.mb]
      by_cases q : k = x.frm
      · rw [q, pk]; exact ⟨by show 1 ≤ a'; omega, fun _ => ba⟩
      · rw [po k k1 q]; exact ld.pr k k1 k2 k3
    · by_cases q : k = x.frm
      · rcases sd with ⟨e, e1, e2, e3, e4⟩ | ⟨e, _⟩
        · left
          rw [q]
          have eo := a.oth x.frm hf1 hxf
          exact ⟨by rw [a.mb, pk, l]; exact e1, by rw [a.mb, pk, l]; exact e2, by rw [a.mb, eo, t]; exact e3, by rw [a.mb, eo, l]; exact e4⟩
        · right
          exact ⟨m'.addn x.frm, by rw [a.net, e]; simp, by omega, by rw [kc, q]⟩
      · rcases ld.conv k k1 k2 k3 with d | ⟨z, z1, z2, z3⟩
        · left
          exact ⟨by rw [a.mb, po k k1 q, l]; exact d.nxt, by rw [a.mb, po k k1 q, l]; exact d.mat, by rw [a.mb, a.oth k k1 k3, t]; exact d.term, by rw [a.mb, a.oth k k1 k3, l]; exact d.set⟩
        · rw [hnet] at z1
          rcases List.mem_cons.1 z1 with e | e
          · subst e; exact (q (by rw [← z3, hcx])).elim
          · exact .inr ⟨z, by rw [a.net]; exact List.mem_append_left _ e, z2, z3⟩
  · unfold Wt
    rw [a.net, hnet, List.map_append, List.sum_append, List.map_cons, List.sum_cons, a.mb, if_neg (by omega), if_neg (by omega)]
    have hle : (rest.map (wt (g.does 3 0 0 0).1 f)).sum ≤ (rest.map (wt g f)).sum := sum_le_map fun z hz => by
      unfold wt
      rw [a.mb]
      refine Nat.add_le_add_left ?_ _
      by_cases q : 2 ≤ z.kind
      · have hz' : z ∈ g.net := by rw [hnet]; exact List.mem_cons_of_mem _ hz
        have hzm := s.ok.net z hz'
        have h1 : 1 ≤ conv z := by unfold conv; split; exact hzm.dst.1; exact hzm.frm.1
        rw [if_pos ⟨q, r⟩, if_pos ⟨q, hr⟩, po _ h1 (hother z hz q), l]
        exact Nat.le_refl _
      · rw [if_neg (fun z => q z.1)]
        exact Nat.zero_le _
    have hwx : wt g f x = 1 + mu ((g.mb f).prAt x.frm) (g.mb f).log.length := by
      unfold wt
      rw [if_neg (by omega), if_pos ⟨by omega, hr⟩, hcx]
    rcases sd with ⟨e, _⟩ | ⟨e, e2⟩
    · rw [e]
      simp only [List.map_nil, List.sum_nil]
      omega
    · rw [e]
      simp only [List.map_cons, List.map_nil, List.sum_cons, List.sum_nil]
      have hwy : wt (g.does 3 0 0 0).1 f (m'.addn x.frm) = 2 + mu (b', a') (g.mb f).log.length := by
        unfold wt
        rw [a.mb, kk, kc, if_pos (.inr rfl), if_pos ⟨Int.le_refl _, r⟩, pk, l]
      omega
end Go.Proofs.YthjdbmfobmnnlaaGreat

/-
  What the one who speaks unasked hears.
-/
namespace Go.Proofs.YthjdbmfobmnnlaaGreat
open Go.RowKit
set_option linter.unusedVariables false
/-- What the one who speaks unasked becomes when it hears. -/
def Heard (g : Gr) (f : Int) (x : Ms) (m' : Mb) : Prop :=
  ((g.mb f).term < x.term ∧ m'.role = 0 ∧ m'.term = x.term ∧ m'.log = (g.mb f).log) ∨
  (x.term ≤ (g.mb f).term ∧ m'.term = (g.mb f).term ∧ m'.log = (g.mb f).log ∧ m'.role = (g.mb f).role ∧ ((g.mb f).role = 1 → (∀ v ∈ (g.mb f).votes, v ∈ m'.votes) ∧ (x.kind = 1 → x.term = (g.mb f).term → x.yes = true → x.frm ∈ m'.votes) ∧ ((g.mb f).won = false → m'.won = false))) ∨
  (x.term ≤ (g.mb f).term ∧ (g.mb f).role = 1 ∧ m'.role = 2 ∧ m'.term = (g.mb f).term ∧ m'.log = (g.mb f).log ++ [((g.mb f).term, (0, 0, 0, 0, 0, 0))])
theorem Se.toF {n : Nat} {f c : Int} {Tc Nc : Nat} {g : Gr} {h : Gh} (s : Se n f c Tc Nc g h) {x : Ms} {rest : List Ms} (hnet : g.net = x :: rest) (hk : x.kind = 1 ∨ x.kind = 3) :
    ∃ h' m' X' said, Ext h h' ∧ Se n f c Tc Nc (g.does 3 0 0 0).1 h' ∧ Wt n f (g.does 3 0 0 0).1 < Wt n f g ∧ AtF n f Tc Nc g (g.does 3 0 0 0).1 h' m' X' (rest ++ said) ∧ Heard g f x m' ∧ ∀ y ∈ said, y.kind = 2 := by
  have hx : x ∈ g.net := by rw [hnet]; exact List.mem_cons_self
  have hm := s.ok.net x hx
  have nx := s.net x hx
  obtain ⟨hd, hxf⟩ := nx.inn hk
  have hf2 : x.frm ≤ (n : Int) := by have := hm.frm.2; have := s.many; omega
  have hrr := s.hr hx
  rw [hd] at hrr
  have heq := hrr.eq
  obtain ⟨s1, s2, s3, s4, s5, s6, s7⟩ := seen_all (g.mb f) x
  obtain ⟨oF, okF, eF, _⟩ := s.inv.here s.ok (i := f) s.f1.1 (by have := s.f1.2; have := s.many; omega)
  have okF : InGr g.ms.length (g.mb f) := okF
  have oF : Mi g.ms.length h (g.mb f) := oF
  have eF : (g.mb f).id = f := eF
  have fF := s.fit f s.f1.1 s.f1.2
  have hb0 := (mayV_true okF.mb.ballot).1
  have hxT : x.term ≤ (Tc : Int) := by
    have h1 := nx.t2
    have h2 : (g.mb x.frm).term ≤ (Tc : Int) := (s.fit x.frm hm.frm.1 hf2).term
    omega
  have hFT : (g.mb f).term ≤ (Tc : Int) := fF.term
  by_cases hlt : (g.mb f).term < x.term
  · obtain ⟨q1, q2⟩ := s6 hlt
    have hh : (g.mb f).hear x = ((g.mb f).seen x, []) := by
      rw [heq]
      unfold Mb.acts
      rcases hk with k | k
      · rw [if_neg (by omega), if_pos k]
        unfold Mb.voted
        rw [if_pos (.inl (by rw [q2]; decide))]
      · rw [if_neg (by omega), if_neg (by omega), if_neg (by omega)]
        unfold Mb.added
        rw [if_pos (.inl (by rw [q2]; decide))]
    obtain ⟨h', e1, e2, e3, e4⟩ := s.quiet hnet hk hh (.inr (potB_less hb0 (by omega) (by omega))) (by omega) (by omega) (by omega) s2 s3 (.inl q2)
    exact ⟨h', _, _, _, e1, e2, e3, e4, .inl ⟨hlt, q2, by omega, s2⟩, fun y hy => (by cases hy)⟩
  have hs := s7 hlt
  rw [hs] at heq
  -- what changes nothing
  have same : (g.mb f).hear x = (g.mb f, []) → ((g.mb f).role = 2 → x.kind = 1) → ((g.mb f).role = 1 → ¬ (x.kind = 1 ∧ x.term = (g.mb f).term ∧ x.yes = true)) → ∃ h' m' X' said, Ext h h' ∧ Se n f c Tc Nc (g.does 3 0 0 0).1 h' ∧ Wt n f (g.does 3 0 0 0).1 < Wt n f g ∧ AtF n f Tc Nc g (g.does 3 0 0 0).1 h' m' X' (rest ++ said) ∧ Heard g f x m' ∧ ∀ y ∈ said, y.kind = 2 := fun hh h2 h1 => by
    obtain ⟨h', e1, e2, e3, e4⟩ := s.quiet hnet hk hh (.inl ⟨rfl, rfl⟩) hFT (Int.le_refl _) (by omega) rfl rfl (.inr ⟨rfl, fun q => ⟨h2 q, rfl⟩⟩)
    exact ⟨h', _, _, _, e1, e2, e3, e4, .inr (.inl ⟨by omega, rfl, rfl, rfl, fun r => ⟨fun v hv => hv, fun a b cc => (h1 r ⟨a, b, cc⟩).elim, id⟩⟩), fun y hy => (by cases hy)⟩
  rcases hk with k | k
  · have ha : (g.mb f).acts x = (g.mb f).voted x := by unfold Mb.acts; rw [if_neg (by omega), if_pos k]
    rw [ha] at heq
    unfold Mb.voted at heq
    by_cases hv : (g.mb f).role ≠ 1 ∨ x.term ≠ (g.mb f).term ∨ x.yes = false
    · rw [if_pos hv] at heq
      refine same heq (fun _ => k) fun r1 q => ?_
      rcases hv with z | z | z
      · exact z r1
      · exact z q.2.1
      · rw [z] at q; cases q.2.2
    · rw [if_neg hv] at heq
      have hr1 : (g.mb f).role = 1 := by omega
      by_cases hw : ((g.mb f).counted x).won = true
      · rw [if_pos hw] at heq
        obtain ⟨h', e1, e2, e3, e4⟩ := s.leads hnet k hr1 heq (by omega)
        have ht : 1 ≤ (g.mb f).term := okF.mb.live (by omega)
        have okC := okF.mb.counted x (by have := hm.frm; have := s.ok.n16; omega)
        have hL := lead_prAt okC ht (by have := s.room hr1; have := s.nc; show (g.mb f).log.length < 64; omega) (j := 1) (Int.le_refl _) (by have := okC.n1; omega)
        exact ⟨h', _, _, _, e1, e2, e3, e4, .inr (.inr ⟨by omega, hr1, lead_role _, (lead_ballot _).2.1, hL.1⟩), fun y hy => (by obtain ⟨_, _, _, rfl⟩ := toAll_mem hy; rfl)⟩
      · rw [if_neg hw] at heq
        obtain ⟨h', e1, e2, e3, e4⟩ := s.quiet hnet (.inl k) heq (.inl ⟨rfl, rfl⟩) hFT (Int.le_refl _) (by show x.term ≤ (g.mb f).term; omega) rfl rfl (.inr ⟨rfl, fun q => by omega⟩)
        refine ⟨h', _, _, _, e1, e2, e3, e4, .inr (.inl ⟨by omega, rfl, rfl, rfl, fun _ => ⟨fun v hv => ?_, fun _ _ _ => ?_, fun _ => ?_⟩⟩), fun y hy => (by cases hy)⟩
        · show v ∈ (if x.frm ∈ (g.mb f).votes then (g.mb f).votes else (g.mb f).votes ++ [x.frm])
          split
          · exact hv
          · exact List.mem_append_left _ hv
        · show x.frm ∈ (if x.frm ∈ (g.mb f).votes then (g.mb f).votes else (g.mb f).votes ++ [x.frm])
          split
          · assumption
          · simp
        · cases q : ((g.mb f).counted x).won with
          | false => rfl
          | true => exact (hw q).elim
  · have ha : (g.mb f).acts x = (g.mb f).added x := by unfold Mb.acts; rw [if_neg (by omega), if_neg (by omega), if_neg (by omega)]
    rw [ha] at heq
    unfold Mb.added at heq
    by_cases hv : (g.mb f).role ≠ 2 ∨ x.term ≠ (g.mb f).term
    · rw [if_pos hv] at heq
      refine same heq (fun q => ?_) fun _ q => by omega
      have := nx.r2 q (by omega)
      omega
    rw [if_neg hv] at heq
    have hr2 : (g.mb f).role = 2 := by omega
    have hxt : x.term = (g.mb f).term := by omega
    have ld := s.lead hr2
    obtain ⟨hba, hbc⟩ := ld.pr x.frm hm.frm.1 hf2 hxf
    obtain ⟨hc0, hcs⟩ := s.set
    have hpa := okF.mb.prAt x.frm
    have hnx := oF.nxt hr2 x.frm hm.frm.1 (by have := s.many; omega)
    have hlf := okF.mb.lastF
    have hpl : (x.frm - 1).toNat < (g.mb f).prog.length := by have := okF.many; have := s.many; have := hm.frm.1; omega
    have pth : ∀ {p : Int × Int} {j : Int}, 1 ≤ j → j ≠ x.frm → ((g.mb f).setPr x.frm p).prAt j = (g.mb f).prAt j := fun {p j} j1 j2 => by
      rcases (g.mb f).setPr_prAt (j := j) (k := x.frm) j1 hm.frm.1 p with ⟨_, e⟩ | e
      · exact (j2 e).elim
      · exact e
    have fin : ∀ {m' : Mb} {h' : Gh} {said : List Ms}, m'.term = (g.mb f).term → m'.log = (g.mb f).log → m'.role = 2 → Heard g f x m' := fun {m' h' said} e1 e2 e3 => .inr (.inl ⟨by omega, e1, e2, by rw [e3, hr2], fun q => by omega⟩)
    by_cases hy : x.yes = false
    · rw [if_pos hy] at heq
      obtain ⟨n1, n2⟩ := nx.no k hr2 hxt hy
      have pk : ((g.mb f).back x).prAt x.frm = (((g.mb f).prAt x.frm).1, max 1 (min (((g.mb f).prAt x.frm).2 - 2) x.index + 1)) := setPr_get _ hpl _
      have fx : ((g.mb f).back x).settle = (g.mb f).back x := by
        refine settle_of (s := 0) ?_
        have := of_settle ld.sfix
        have e := setPr_fst (g.mb f) (k := x.frm) (p := (((g.mb f).prAt x.frm).1, max 1 (min (((g.mb f).prAt x.frm).2 - 2) x.index + 1))) rfl
        show commitF 0 0 (g.mb f).log (((g.mb f).setPr x.frm _).prog.map (·.1)) (g.mb f).term (g.mb f).settled = (g.mb f).settled
        rw [e]
        exact this
      obtain ⟨h', e1, e2, e3, e4⟩ := s.goesOn hnet k hr2 heq hxt rfl rfl rfl hr2 eF (Int.le_refl _) fx pk (fun j j1 j2 => pth j1 j2) (by omega) (by omega) (by omega) (.inr ⟨rfl, by unfold mu; split <;> split <;> omega⟩)
      exact ⟨h', _, _, _, e1, e2, e3, e4, fin (h' := h') (said := []) rfl rfl hr2, fun y hy => (by rw [List.mem_singleton] at hy; rw [hy]; rfl)⟩
    · have hy : x.yes = true := by
        cases q : x.yes with
        | true => rfl
        | false => exact (hy q).elim
      obtain ⟨y1, y2, y3⟩ := nx.yes k hr2 hxt hy
      rw [if_neg (by rw [hy]; decide), hlf, if_neg (by simp only; omega)] at heq
      simp only at heq
      have hma : ((g.mb f).prAt x.frm).1 ≤ ((g.mb f).log.length : Int) := by
        obtain ⟨p1, p2⟩ := s.preLog hr2 hm.frm.1 hf2 (by omega)
        have := congrArg List.length p2
        rw [List.length_take, List.length_take] at this
        omega
      have hmi : max ((g.mb f).prAt x.frm).1 x.index ≤ ((g.mb f).log.length : Int) := by omega
      have pk : ((g.mb f).matched x).prAt x.frm = (max ((g.mb f).prAt x.frm).1 x.index, max ((g.mb f).prAt x.frm).1 x.index + 1) := by
        show ((g.mb f).setPr x.frm _).prAt x.frm = _
        rw [setPr_get _ hpl]
      have oks : MbOk ((g.mb f).setPr x.frm (max ((g.mb f).prAt x.frm).1 x.index, max ((g.mb f).prAt x.frm).1 x.index + 1)) := okF.mb.setPr _ _ (by have := okF.mb.len64; simp only; omega)
      have fx : ((g.mb f).matched x).settle = (g.mb f).matched x := settle_fix oks
      have st : (g.mb f).settled ≤ ((g.mb f).matched x).settled := settle_up oks
      by_cases hn : ((g.mb f).log.length : Int) < max ((g.mb f).prAt x.frm).1 x.index + 1
      · rw [if_pos hn] at heq
        obtain ⟨h', e1, e2, e3, e4⟩ := s.goesOn hnet k hr2 heq hxt rfl rfl rfl hr2 eF st fx pk (fun j j1 j2 => pth j1 j2) (by omega) (by omega) (by omega) (.inl ⟨rfl, by omega, by omega, y1, by omega⟩)
        exact ⟨h', _, _, _, e1, e2, e3, e4, fin (h' := h') (said := []) rfl rfl hr2, fun y hy => (by cases hy)⟩
      · rw [if_neg hn] at heq
        obtain ⟨h', e1, e2, e3, e4⟩ := s.goesOn hnet k hr2 heq hxt rfl rfl rfl hr2 eF st fx pk (fun j j1 j2 => pth j1 j2) (by omega) (by omega) (by omega) (.inr ⟨rfl, by unfold mu; simp only; split <;> split <;> omega⟩)
        exact ⟨h', _, _, _, e1, e2, e3, e4, fin (h' := h') (said := []) rfl rfl hr2, fun y hy => (by rw [List.mem_singleton] at hy; rw [hy]; rfl)⟩
end Go.Proofs.YthjdbmfobmnnlaaGreat

/-
  All that is said comes.
-/
namespace Go.Proofs.YthjdbmfobmnnlaaGreat
open Go.RowKit
set_option linter.unusedVariables false
/-! ### All that is said comes -/
/-- The first message comes, again and again, at most so often. -/
def Gr.drain : Nat → Gr → Gr
  | 0, g => g
  | k + 1, g => if g.net.length = 0 then g else Gr.drain k (g.does 3 0 0 0).1
theorem Gr.drain_idle {g : Gr} (h : g.net.length = 0) : ∀ k, Gr.drain k g = g
  | 0 => rfl
  | k + 1 => by rw [Gr.drain, if_pos h]
theorem Se.step {n : Nat} {f c : Int} {Tc Nc : Nat} {g : Gr} {h : Gh} (s : Se n f c Tc Nc g h) (hne : g.net.length ≠ 0) : ∃ h', Ext h h' ∧ Se n f c Tc Nc (g.does 3 0 0 0).1 h' ∧ Wt n f (g.does 3 0 0 0).1 < Wt n f g ∧ ∃ x rest, g.net = x :: rest ∧
    (((x.kind = 0 ∨ x.kind = 2) ∧ (g.does 3 0 0 0).1.mb f = g.mb f ∧ ∃ y, (g.does 3 0 0 0).1.net = rest ++ [y] ∧ Told g f c Tc Nc x ((g.mb x.dst).hear x).1 y ∧ (∀ j, 1 ≤ j → (g.does 3 0 0 0).1.mb j = if j = x.dst then ((g.mb x.dst).hear x).1 else g.mb j) ∧ (x.kind = 0 → ((g.mb x.dst).term < x.term ∨ ((g.mb x.dst).term = x.term ∧ ((g.mb x.dst).vote = 0 ∨ (g.mb x.dst).vote = x.frm))) → newerB x.index x.lterm ((g.mb x.dst).log.length : Int) (endT (g.mb x.dst).log 0) = true → y.yes = true)) ∨
     ((x.kind = 1 ∨ x.kind = 3) ∧ ∃ m' X' said, AtF n f Tc Nc g (g.does 3 0 0 0).1 h' m' X' (rest ++ said) ∧ Heard g f x m' ∧ ∀ y ∈ said, y.kind = 2)) := by
  cases hn : g.net with
  | nil => rw [hn] at hne; exact (hne rfl).elim
  | cons x rest =>
    have hm := s.ok.net x (by rw [hn]; exact List.mem_cons_self)
    by_cases hk : x.kind = 0 ∨ x.kind = 2
    · obtain ⟨h', e1, e2, e3, e4, y, e5, e6, e7, e8⟩ := s.toK hn hk
      exact ⟨h', e1, e2, e3, x, rest, rfl, .inl ⟨hk, e4, y, e5, e6, e7, e8⟩⟩
    · have hk : x.kind = 1 ∨ x.kind = 3 := by have := hm.kind; omega
      obtain ⟨h', m', X', said, e1, e2, e3, e4, e5, e6⟩ := s.toF hn hk
      exact ⟨h', e1, e2, e3, x, rest, rfl, .inr ⟨hk, m', X', said, e4, e5, e6⟩⟩
theorem Se.drain {n : Nat} {f c : Int} {Tc Nc : Nat} {P : Gr → Prop} (hP : ∀ g h, Se n f c Tc Nc g h → g.net.length ≠ 0 → P g → P (g.does 3 0 0 0).1) : ∀ (N : Nat) (g : Gr) (h : Gh), Se n f c Tc Nc g h → Wt n f g ≤ N → P g → ∃ h', Ext h h' ∧ Se n f c Tc Nc (Gr.drain N g) h' ∧ (Gr.drain N g).net = [] ∧ P (Gr.drain N g)
  | 0, g, h, s, hw, p => by
    refine ⟨h, .refl h, s, ?_, p⟩
    cases hn : g.net with
    | nil => exact hn
    | cons x rest =>
      unfold Wt at hw
      rw [hn, List.map_cons, List.sum_cons] at hw
      have := wt_pos g f x
      omega
  | N + 1, g, h, s, hw, p => by
    rw [Gr.drain]
    split
    · rename_i h0
      exact ⟨h, .refl h, s, List.eq_nil_of_length_eq_zero h0, p⟩
    · rename_i h0
      obtain ⟨h1, e1, s1, w1, _⟩ := s.step h0
      obtain ⟨h2, e2, r⟩ := Se.drain hP N _ h1 s1 (by omega) (hP g h s h0 p)
      exact ⟨h2, e1.trans e2, r⟩
/-! ### Nobody is ahead: it leads -/
structure Fre (n : Nat) (f T : Int) (X : List En) (g : Gr) : Prop where
  all : ∀ k, 1 ≤ k → k ≤ (n : Int) → (g.mb k).term ≤ T
  term : (g.mb f).term = T
  asks : g.net.Pairwise fun x y => x.kind = 0 → y.kind = 0 → x.dst ≠ y.dst
  st : ((g.mb f).role = 2 ∧ (g.mb f).log = X ++ [(T, (0, 0, 0, 0, 0, 0))]) ∨
    ((g.mb f).role = 1 ∧ (g.mb f).log = X ∧ (g.mb f).won = false ∧ f ∈ (g.mb f).votes ∧ ∀ k, 1 ≤ k → k ≤ (n : Int) → k ≠ f →
      (k ∈ (g.mb f).votes ∨ (∃ z ∈ g.net, z.kind = 0 ∧ z.dst = k ∧ z.term = T ∧ ((g.mb k).term < T ∨ (g.mb k).vote = 0 ∨ (g.mb k).vote = f) ∧ newerB z.index z.lterm ((g.mb k).log.length : Int) (endT (g.mb k).log 0) = true) ∨ ∃ z ∈ g.net, z.kind = 1 ∧ z.frm = k ∧ z.term = T ∧ z.yes = true))
theorem Fre.step {n : Nat} {f T c : Int} {X : List En} {Tc Nc : Nat} {g : Gr} {h : Gh} (s : Se n f c Tc Nc g h) (hne : g.net.length ≠ 0) (p : Fre n f T X g) : Fre n f T X (g.does 3 0 0 0).1 := by
  obtain ⟨h', ex, s', w, x, rest, hnet, hcase⟩ := s.step hne
  have hx : x ∈ g.net := by rw [hnet]; exact List.mem_cons_self
  have hm := s.ok.net x hx
  have nx := s.net x hx
  have hpa := p.asks
  rw [hnet, List.pairwise_cons] at hpa
  rcases hcase with ⟨hk, hF, y, hn', td, hmb, hgr⟩ | ⟨hk, m', X', said, a, hd, hs2⟩
  · obtain ⟨hfrm, hdst⟩ := nx.out hk
    have hxT : x.term ≤ T := by have := nx.t2; rw [hfrm, p.term] at this; exact this
    have hdn : x.dst ≤ (n : Int) := by have := hm.dst.2; have := s.many; omega
    have hKT := p.all x.dst hm.dst.1 hdn
    have hyk : y.kind ≠ 0 := by rcases td.kind with ⟨_, q, _⟩ | ⟨_, q, _⟩ <;> omega
    refine ⟨fun k k1 k2 => ?_, by rw [hF]; exact p.term, ?_, ?_⟩
    · rw [hmb k k1]
      split
      · rw [td.term]; omega
      · exact p.all k k1 k2
    · rw [hn', List.pairwise_append]
      exact ⟨hpa.2, List.pairwise_singleton _ _, fun u _ v hv _ h2 => by rw [List.mem_singleton] at hv; subst hv; exact (hyk h2).elim⟩
    · rw [hF]
      rcases p.st with q | ⟨q1, q2, q3, q4, q5⟩
      · exact .inl q
      · refine .inr ⟨q1, q2, q3, q4, fun k k1 k2 k3 => ?_⟩
        rcases q5 k k1 k2 k3 with r | ⟨z, z1, z2, z3, z4, z5, z6⟩ | ⟨z, z1, z2, z3⟩
        · exact .inl r
        · rw [hnet] at z1
          rcases List.mem_cons.1 z1 with e | e
          · subst e
            right; right
            refine ⟨y, by rw [hn']; simp, ?_, by rw [td.frm, z3], ?_, hgr z2 ?_ ?_⟩
            · rcases td.kind with ⟨_, q, _⟩ | ⟨q, _⟩
              · exact q
              · omega
            · rw [td.yt, td.term]; omega
            · rw [z3, hfrm]
              rw [z3] at hKT
              rcases z5 with v | v
              · exact .inl (by omega)
              · by_cases w2 : (g.mb k).term < z.term
                · exact .inl w2
                · exact .inr ⟨by omega, v⟩
            · rw [z3]; exact z6
          · have hxk : x.kind = 0 := by
              have := nx.r1 q1
              omega
            have hne2 : k ≠ x.dst := fun e2 => hpa.1 z e hxk z2 (by rw [z3, e2])
            right; left
            refine ⟨z, by rw [hn']; exact List.mem_append_left _ e, z2, z3, z4, ?_, ?_⟩
            · rw [hmb k k1, if_neg hne2]; exact z5
            · rw [hmb k k1, if_neg hne2]; exact z6
        · rw [hnet] at z1
          rcases List.mem_cons.1 z1 with e | e
          · subst e; omega
          · exact .inr (.inr ⟨z, by rw [hn']; exact List.mem_append_left _ e, z2, z3⟩)
  · obtain ⟨hdst, hfrm⟩ := nx.inn hk
    have hfn : x.frm ≤ (n : Int) := by have := hm.frm.2; have := s.many; omega
    have hxT : x.term ≤ T := Int.le_trans nx.t2 (p.all x.frm hm.frm.1 hfn)
    have hmT : m'.term = T := by
      rcases hd with ⟨q, _⟩ | ⟨_, q, _⟩ | ⟨_, _, _, q, _⟩
      · rw [p.term] at q; omega
      · rw [q]; exact p.term
      · rw [q]; exact p.term
    have hsaid : (g.does 3 0 0 0).1.net.Pairwise fun x y => x.kind = 0 → y.kind = 0 → x.dst ≠ y.dst := by
      rw [a.net, List.pairwise_append]
      refine ⟨hpa.2, ?_, fun u _ v hv _ h2 => by have := hs2 v hv; omega⟩
      exact List.Pairwise.imp_of_mem (R := fun _ _ => True) (fun {u v} hu _ _ h1 => by have := hs2 u hu; omega) (List.pairwise_of_forall fun _ _ => trivial)
    have hin : ∀ z ∈ rest, z ∈ (g.does 3 0 0 0).1.net := fun z hz => by rw [a.net]; exact List.mem_append_left _ hz
    refine ⟨fun k k1 k2 => ?_, by rw [a.mb]; exact hmT, hsaid, ?_⟩
    · by_cases q : k = f
      · rw [q, a.mb, hmT]; exact Int.le_refl _
      · rw [a.oth k k1 q]; exact p.all k k1 k2
    · rw [a.mb]
      rcases hd with ⟨q, _⟩ | ⟨_, d1, d2, d3, d4⟩ | ⟨_, d1, d2, d3, d4⟩
      · rw [p.term] at q; omega
      · rcases p.st with ⟨q1, q2⟩ | ⟨q1, q2, q3, q4, q5⟩
        · exact .inl ⟨by rw [d3]; exact q1, by rw [d2]; exact q2⟩
        · obtain ⟨v1, v2, v3⟩ := d4 q1
          refine .inr ⟨by rw [d3]; exact q1, by rw [d2]; exact q2, v3 q3, v1 f q4, fun k k1 k2 k3 => ?_⟩
          rcases q5 k k1 k2 k3 with r | ⟨z, z1, z2, z3, z4, z5, z6⟩ | ⟨z, z1, z2, z3, z4⟩
          · exact .inl (v1 k r)
          · rw [hnet] at z1
            rcases List.mem_cons.1 z1 with e | e
            · subst e; omega
            · right; left
              exact ⟨z, hin z e, z2, z3, z4, by rw [a.oth k k1 k3]; exact z5, by rw [a.oth k k1 k3]; exact z6⟩
          · rw [hnet] at z1
            rcases List.mem_cons.1 z1 with e | e
            · subst e
              left
              rw [← z3]
              exact v2 z2 (by rw [p.term]; exact z4.1) z4.2
            · right; right
              exact ⟨z, hin z e, z2, z3, z4⟩
      · rcases p.st with ⟨q1, q2⟩ | ⟨q1, q2, q3, q4, q5⟩
        · omega
        · exact .inl ⟨d2, by rw [d4, q2, p.term]⟩
end Go.Proofs.YthjdbmfobmnnlaaGreat

/-
  When nothing is on its way.
-/
namespace Go.Proofs.YthjdbmfobmnnlaaGreat
open Go.RowKit
set_option linter.unusedVariables false
/-! ### When nothing is on its way -/
theorem sub_len {l l' : List Int} (hn : l.Nodup) (hs : ∀ v ∈ l, v ∈ l') : l.length ≤ l'.length := by
  induction l generalizing l' with
  | nil => exact Nat.zero_le _
  | cons a t ih =>
    rw [List.nodup_cons] at hn
    have ha := hs a List.mem_cons_self
    have h1 := ih (l' := l'.erase a) hn.2 fun v hv => (List.mem_erase_of_ne (fun e => hn.1 (by rw [← e]; exact hv))).2 (hs v (List.mem_cons_of_mem _ hv))
    have h2 := List.length_erase_of_mem ha
    have h3 := List.length_pos_of_mem ha
    rw [List.length_cons]
    omega
theorem all_len {n : Nat} {l : List Int} (h : ∀ k : Int, 1 ≤ k → k ≤ (n : Int) → k ∈ l) : n ≤ l.length := by
  have hn : ((List.range n).map fun (i : Nat) => (i : Int) + 1).Nodup := List.pairwise_map.2 (List.Pairwise.imp (fun {a b} (hab : a ≠ b) => by omega) List.nodup_range)
  have := sub_len hn (l' := l) fun v hv => by
    obtain ⟨i, hi, rfl⟩ := List.mem_map.1 hv
    rw [List.mem_range] at hi
    exact h _ (by omega) (by omega)
  rwa [List.length_map, List.length_range] at this
/-- A fresh candidate leads when all that was said has come. -/
theorem Fre.leads {n : Nat} {f c T : Int} {X : List En} {Tc Nc : Nat} {g : Gr} {h : Gh} (s : Se n f c Tc Nc g h) (hnet : g.net = []) (p : Fre n f T X g) : (g.mb f).role = 2 ∧ (g.mb f).log = X ++ [(T, (0, 0, 0, 0, 0, 0))] := by
  rcases p.st with q | ⟨q1, q2, q3, q4, q5⟩
  · exact q
  · exfalso
    obtain ⟨_, okF, _, _⟩ := s.inv.here s.ok (i := f) s.f1.1 (by have := s.f1.2; have := s.many; omega)
    have okF : InGr g.ms.length (g.mb f) := okF
    have hall : ∀ k : Int, 1 ≤ k → k ≤ (n : Int) → k ∈ (g.mb f).votes := fun k k1 k2 => by
      by_cases e : k = f
      · rw [e]; exact q4
      · rcases q5 k k1 k2 e with r | ⟨z, z1, _⟩ | ⟨z, z1, _⟩
        · exact r
        · rw [hnet] at z1; cases z1
        · rw [hnet] at z1; cases z1
    have hl := all_len hall
    unfold Mb.won at q3
    rw [decide_eq_false_iff_not] at q3
    refine q3 ?_
    have h1 := okF.many
    have h2 := s.many
    have h3 := s.ok.n1
    unfold majN
    omega
/-- Who leads, when nothing is on its way: all have its log, all of it settled. -/
structure Rest (n : Nat) (f c : Int) (g : Gr) : Prop where
  term : ∀ k, 1 ≤ k → k ≤ (n : Int) → (g.mb k).term = (g.mb f).term
  log : ∀ k, 1 ≤ k → k ≤ (n : Int) → (g.mb k).log = (g.mb f).log
  lead : (g.mb f).settled = ((g.mb f).log.length : Int)
  set : ∀ k, 1 ≤ k → k ≤ (n : Int) → k ≠ f → min c (g.mb f).log.length ≤ (g.mb k).settled ∧ (g.mb k).settled ≤ ((g.mb f).log.length : Int)
  mat : ∀ k, 1 ≤ k → k ≤ (n : Int) → k ≠ f → (g.mb f).prAt k = (((g.mb f).log.length : Int), ((g.mb f).log.length : Int) + 1)
theorem Se.rest {n : Nat} {f c : Int} {Tc Nc : Nat} {g : Gr} {h : Gh} (s : Se n f c Tc Nc g h) (hnet : g.net = []) (hr : (g.mb f).role = 2) : Rest n f c g := by
  have ld := s.lead hr
  obtain ⟨oF, okF, eF, _⟩ := s.inv.here s.ok (i := f) s.f1.1 (by have := s.f1.2; have := s.many; omega)
  have okF : InGr g.ms.length (g.mb f) := okF
  have oF : Mi g.ms.length h (g.mb f) := oF
  have eF : (g.mb f).id = f := eF
  have done : ∀ k, 1 ≤ k → k ≤ (n : Int) → k ≠ f → Done g f c k := fun k k1 k2 k3 => by
    rcases ld.conv k k1 k2 k3 with d | ⟨z, z1, _⟩
    · exact d
    · rw [hnet] at z1; cases z1
  have term : ∀ k, 1 ≤ k → k ≤ (n : Int) → (g.mb k).term = (g.mb f).term := fun k k1 k2 => by
    by_cases e : k = f
    · rw [e]
    · exact (done k k1 k2 e).term
  have log : ∀ k, 1 ≤ k → k ≤ (n : Int) → (g.mb k).log = (g.mb f).log := fun k k1 k2 => by
    by_cases e : k = f
    · rw [e]
    · have d := done k k1 k2 e
      obtain ⟨oK, okK, eK, _⟩ := s.inv.here s.ok (i := k) k1 (by have := s.many; omega)
      have oK : Mi g.ms.length h (g.mb k) := oK
      have okK : InGr g.ms.length (g.mb k) := okK
      obtain ⟨p1, p2⟩ := s.preLog hr k1 k2 (by rw [d.term]; exact Int.le_refl _)
      rw [d.mat, Int.toNat_natCast, List.take_length] at p2
      rw [d.mat] at p1
      by_cases q : (g.mb k).log.length = (g.mb f).log.length
      · rw [← q, List.take_length] at p2
        exact p2
      · exfalso
        have hlt : (g.mb f).log.length < (g.mb k).log.length := by omega
        have h1 := ld.one
        have he := List.getElem?_eq_getElem hlt
        obtain ⟨l1, l2⟩ := oK.lm _ _ he
        have hri := rising_at hlt okK.mb.rise
        rw [p2, ld.last] at hri
        have hle := (rising_le okK.mb.rise _ (List.getElem_mem hlt)).2
        have hlast := okK.mb.last
        have e1 : ((g.mb k).log[(g.mb f).log.length]'hlt).1 = (g.mb f).term := by
          have := d.term
          omega
        rw [e1] at l2
        have := l2.1
        rw [(oF.led hr).2.1] at this
        omega
  have hset : (g.mb f).settled = ((g.mb f).log.length : Int) := by
    have hle := oF.set
    refine Classical.byContradiction fun hne => ?_
    have hlt : (g.mb f).settled < ((g.mb f).log.length : Int) := by omega
    have hfix := of_settle ld.sfix
    have h0 := okF.mb.n1
    have hms : ((g.mb f).prog.map (·.1)).length ≠ 0 := by rw [List.length_map]; omega
    have hall : ∀ v ∈ (g.mb f).prog.map (·.1), v = ((g.mb f).log.length : Int) := fun v hv => by
      obtain ⟨p, hp, rfl⟩ := List.mem_map.1 hv
      obtain ⟨i, hi, rfl⟩ := List.mem_iff_getElem.1 hp
      have e : (g.mb f).prAt ((i : Int) + 1) = (g.mb f).prog[i] := by
        unfold Mb.prAt
        rw [show ((i : Int) + 1 - 1).toNat = i by omega, List.getD_eq_getElem?_getD, List.getElem?_eq_getElem hi]
        rfl
      rw [← e]
      by_cases q : (i : Int) + 1 = f
      · rw [q]; exact ld.own
      · exact (done _ (by omega) (by have := okF.many; have := s.many; omega) q).mat
    have hmost := hall _ (most_spec hms).1
    have hz := ld.one
    unfold commitF at hfix
    rw [fairL_yes okF.mb.log] at hfix
    simp only at hfix
    rw [hmost, show min (0 + ((g.mb f).log.length : Int)) ((g.mb f).log.length : Int) = ((g.mb f).log.length : Int) by omega, commitAt_hit (by omega) hlt (by rw [Int.sub_zero, Int.toNat_natCast, List.take_length]; exact ld.last)] at hfix
    omega
  refine ⟨term, log, hset, fun k k1 k2 k3 => ⟨(done k k1 k2 k3).set, ?_⟩, fun k k1 k2 k3 => ?_⟩
  · obtain ⟨oK, okK, eK, _⟩ := s.inv.here s.ok (i := k) k1 (by have := s.many; omega)
    have oK : Mi g.ms.length h (g.mb k) := oK
    have := oK.set
    rw [log k k1 k2] at this
    exact this
  · have d := done k k1 k2 k3
    exact Prod.ext d.mat d.nxt
end Go.Proofs.YthjdbmfobmnnlaaGreat

/-
  It begins to speak.
-/
namespace Go.Proofs.YthjdbmfobmnnlaaGreat
open Go.RowKit
set_option linter.unusedVariables false
/-! ### It begins to speak -/
/-- A group in which nothing is on its way. -/
structure Calm (n : Nat) (f : Int) (Tc Nc : Nat) (g : Gr) (h : Gh) : Prop where
  ok : GrOk g
  inv : Inv g h
  many : g.ms.length = n
  f1 : 1 ≤ f ∧ f ≤ (n : Int)
  nc : Nc ≤ 64
  tc : Tc ≤ 1073741824
  fit : ∀ k, 1 ≤ k → k ≤ (n : Int) → Fit Tc Nc (g.mb f).log (g.at_ k)
  net : g.net = []
theorem Se.calm {n : Nat} {f c : Int} {Tc Nc : Nat} {g : Gr} {h : Gh} (s : Se n f c Tc Nc g h) (hnet : g.net = []) : Calm n f Tc Nc g h := ⟨s.ok, s.inv, s.many, s.f1, s.nc, s.tc, s.fit, hnet⟩
/-- A leader tells all others. -/
theorem Se.begin {n : Nat} {f c : Int} {Tc Nc : Nat} {g : Gr} {h : Gh} (ok : GrOk g) (inv : Inv g h) (many : g.ms.length = n) (f1 : 1 ≤ f ∧ f ≤ (n : Int)) (nc : Nc ≤ 64) (tc : Tc ≤ 1073741824) (fit : ∀ k, 1 ≤ k → k ≤ (n : Int) → Fit Tc Nc (g.mb f).log (g.at_ k)) (hr : (g.mb f).role = 2)
    (one : 1 ≤ (g.mb f).log.length) (last : endT (g.mb f).log 0 = (g.mb f).term) (sfix : (g.mb f).settle = g.mb f) (own : ((g.mb f).prAt f).1 = ((g.mb f).log.length : Int)) (pr : ∀ k, 1 ≤ k → k ≤ (n : Int) → k ≠ f → (1 ≤ ((g.mb f).prAt k).2 ∧ (0 < c → ((g.mb f).prAt k).1 < ((g.mb f).prAt k).2)) ∧ ((g.mb f).prAt k).2 ≤ ((g.mb f).log.length : Int) + 1)
    (hnet : g.net = (g.mb f).adds) (set : 0 ≤ c ∧ c ≤ (g.mb f).settled) {M : Nat} (hM : ∀ k, 1 ≤ k → k ≤ (n : Int) → k ≠ f → 2 + mu ((g.mb f).prAt k) (g.mb f).log.length ≤ M) : Se n f c Tc Nc g h ∧ Wt n f g ≤ M * n := by
  obtain ⟨oF, okF, eF, _⟩ := inv.here ok (i := f) f1.1 (by omega)
  have okF : InGr g.ms.length (g.mb f) := okF
  have eF : (g.mb f).id = f := eF
  have hpl : (g.mb f).prog.length = n := by rw [okF.many]; exact many
  have hadd : ∀ z ∈ (g.mb f).adds, ∃ k : Int, 1 ≤ k ∧ k ≤ (n : Int) ∧ k ≠ f ∧ z = (g.mb f).addn k := fun z hz => by
    obtain ⟨k, k1, k2, k3⟩ := toAll_mem hz
    exact ⟨(k : Int) + 1, by omega, by omega, by rw [← eF]; exact k2, k3⟩
  have hac : ∀ k, 1 ≤ k → k ≤ (n : Int) → k ≠ f → AddC (g.mb f).log ((g.mb f).addn k) ∧ ((g.mb f).addn k).index = ((g.mb f).prAt k).2 - 1 ∧ (((g.mb f).addn k).ents.length : Int) = min 8 ((g.mb f).log.length - (((g.mb f).prAt k).2 - 1)) ∧ ((g.mb f).addn k).commit = (g.mb f).settled := fun k k1 k2 k3 => by
    have := pr k k1 k2 k3
    have hp := okF.mb.prAt k
    exact addn_c okF.mb (by omega) (by omega)
  have hlive : 1 ≤ (g.mb f).term := okF.mb.live (by omega)
  refine ⟨⟨ok, inv, many, f1, nc, tc, fit, fun q => by omega, fun z hz => ?_, ?_, set, fun _ => ⟨one, last, sfix, own, fun k k1 k2 k3 => (pr k k1 k2 k3).1, fun k k1 k2 k3 => .inr ⟨(g.mb f).addn k, ?_, by show (2 : Int) ≤ 2; decide, rfl⟩⟩, fun k k1 k2 => ?_⟩, ?_⟩
  · rw [hnet] at hz
    obtain ⟨k, k1, k2, k3, rfl⟩ := hadd z hz
    obtain ⟨c1, c2, c3, c4⟩ := hac k k1 k2 k3
    have kk : ((g.mb f).addn k).kind = 2 := rfl
    have kf : ((g.mb f).addn k).frm = f := eF
    have kt : ((g.mb f).addn k).term = (g.mb f).term := rfl
    exact ⟨fun _ => ⟨kf, k3⟩, fun q => by omega, by omega, by rw [kf, kt]; exact Int.le_refl _, fun q => by omega, fun _ _ => by rw [kt]; exact Int.le_refl _, fun _ => c1, fun _ _ => ⟨c2, by rw [c2]; exact c3, by rw [c4]; exact set.2⟩, fun q => by omega, fun q => by omega⟩
  · rw [hnet]
    exact toAll_pair (f := (g.mb f).addn) (R := fun x y => 2 ≤ x.kind → 2 ≤ y.kind → conv x ≠ conv y) (fun i j hij _ _ => by show i ≠ j; exact hij) _
  · rw [hnet]
    exact toAll_has k1 (by omega) (by rw [eF]; exact k3)
  · by_cases q : k = f
    · rw [q]; exact .inl (Int.le_refl _)
    · exact .inr ⟨(g.mb f).addn k, by rw [hnet]; exact toAll_has k1 (by omega) (by rw [eF]; exact q), .inl ⟨.inr rfl, rfl⟩⟩
  · unfold Wt
    rw [if_neg (by omega), hnet]
    have h1 : ((g.mb f).adds.map (wt g f)).sum ≤ M * (g.mb f).adds.length := sum_le_len fun z hz => by
      obtain ⟨k, k1, k2, k3, rfl⟩ := hadd z hz
      have kc : conv ((g.mb f).addn k) = k := rfl
      have kk : ((g.mb f).addn k).kind = 2 := rfl
      unfold wt
      rw [kk, kc, if_pos (.inr rfl), if_pos ⟨Int.le_refl _, hr⟩]
      exact hM k k1 k2 k3
    have h2 : (g.mb f).adds.length ≤ n := Nat.le_trans (toAll_len (g.mb f).id (g.mb f).addn (g.mb f).prog.length) (by omega)
    have : M * (g.mb f).adds.length ≤ M * n := Nat.mul_le_mul_left _ h2
    omega
theorem there_m0 {g : Gr} {k f : Int} (hk : k = 0 ∨ k = 1 ∨ k = 2 ∨ k = 6) (f1 : 1 ≤ f ∧ f ≤ (g.ms.length : Int)) : g.there k f = 0 := by
  unfold Gr.there
  rw [if_pos hk, if_neg (by omega)]
/-- What a member does by itself, and its disk has room. -/
theorem Calm.acts {n : Nat} {f : Int} {Tc Nc : Nat} {g : Gr} {h : Gh} (q : Calm n f Tc Nc g h) {m' : Mb} {said : List Ms} {X' : List En} (hin : InGr n m') (ht : m'.term ≤ Tc) (hl : m'.log.length ≤ Nc) (hf : ∀ e ∈ m'.log, EnFair e) (hb : Bal Tc (g.mb f) m') (hlog : (if commonN (g.mb f).log m'.log < (g.mb f).log.length then 1 else 0) + (m'.log.length - commonN (g.mb f).log m'.log) + potL Nc X' m'.log ≤ potL Nc (g.mb f).log (g.mb f).log) :
    (g.acts f m' said).net = said ∧ (g.acts f m' said).mb f = m' ∧ (∀ j, 1 ≤ j → j ≠ f → (g.acts f m' said).mb j = g.mb j ∧ (g.acts f m' said).at_ j = g.at_ j) ∧ Fit Tc Nc X' ((g.acts f m' said).at_ f) ∧ (g.acts f m' said).ms.length = n := by
  have f2 : f ≤ (g.ms.length : Int) := by have := q.f1.2; have := q.many; omega
  have hp := q.ok.pair _ _ (at_get q.f1.1 f2)
  obtain ⟨z1, z2⟩ := (q.fit f q.f1.1 q.f1.2).save (X' := X') hp (by rw [q.many]; exact hin) ht hl hf hb hlog
  have eg : g.acts f m' said = ⟨(g.set f (m', syncV (saved m' (g.at_ f).2))).ms, said⟩ := by
    have := acts_ok (g := g) (i := f) (m := m') (said := said) (net := g.net) z1
    rw [q.net, List.nil_append] at this
    rw [← this]
    have e : (⟨g.ms, []⟩ : Gr) = g := by rw [← q.net]
    rw [e]
  have hat : ∀ j, 1 ≤ j → (g.acts f m' said).at_ j = if j = f then (m', syncV (saved m' (g.at_ f).2)) else g.at_ j := fun j hj => by rw [eg]; exact set_at q.f1.1 f2 hj _ _
  refine ⟨by rw [eg], ?_, fun j j1 j2 => ⟨?_, ?_⟩, ?_, by rw [Gr.acts_len]; exact q.many⟩
  · unfold Gr.mb; rw [hat f q.f1.1, if_pos rfl]
  · unfold Gr.mb; rw [hat j j1, if_neg j2]
  · rw [hat j j1, if_neg j2]
  · rw [hat f q.f1.1, if_pos rfl]; exact z2
theorem zero_fair (t : Int) : EnFair (t, (0, 0, 0, 0, 0, 0)) := by
  unfold EnFair Fair
  intro v hv
  simp only [List.mem_cons, List.not_mem_nil, or_false] at hv
  rcases hv with rfl | rfl | rfl | rfl | rfl | rfl <;> decide
/-- It times out: nobody is ahead. -/
theorem Calm.timeout {n : Nat} {f : Int} {Tc Nc : Nat} {g : Gr} {h : Gh} (q : Calm n f Tc Nc g h) (hr : (g.mb f).role ≠ 2) (room : (g.mb f).log.length < Nc) (hT : (g.mb f).term + 1 ≤ (Tc : Int))
    (new : ∀ k, 1 ≤ k → k ≤ (n : Int) → k ≠ f → newerB ((g.mb f).log.length : Int) (endT (g.mb f).log 0) ((g.mb k).log.length : Int) (endT (g.mb k).log 0) = true) :
    ∃ h', Ext h h' ∧ Se n f 0 Tc Nc (g.does 0 f 0 0).1 h' ∧ (((g.does 0 f 0 0).1.mb f).term = (g.mb f).term + 1 ∧ ((g.does 0 f 0 0).1.mb f).log.take (g.mb f).log.length = (g.mb f).log ∧ (∀ k, 1 ≤ k → k ≠ f → (g.does 0 f 0 0).1.mb k = g.mb k) ∧ ((((g.does 0 f 0 0).1.mb f).role = 1 ∧ ((g.does 0 f 0 0).1.mb f).log = (g.mb f).log) ∨ (((g.does 0 f 0 0).1.mb f).role = 2 ∧ ((g.does 0 f 0 0).1.mb f).log = (g.mb f).log ++ [((g.mb f).term + 1, (0, 0, 0, 0, 0, 0))]))) ∧ ((∀ k, 1 ≤ k → k ≤ (n : Int) → (g.mb k).term ≤ (g.mb f).term) → Fre n f ((g.mb f).term + 1) (g.mb f).log (g.does 0 f 0 0).1) ∧ Wt n f (g.does 0 f 0 0).1 ≤ (4 * (g.mb f).log.length + 6) * n := by
  have f2 : f ≤ (g.ms.length : Int) := by have := q.f1.2; have := q.many; omega
  obtain ⟨h', ex, inv'⟩ := q.inv.does q.ok 0 f 0 0
  have ok' := q.ok.does 0 f 0 0
  have eg : (g.does 0 f 0 0).1 = g.acts f (g.mb f).timeout.1 (g.mb f).timeout.2 := by
    unfold Gr.does
    rw [if_neg (by rw [there_m0 (.inl rfl) ⟨q.f1.1, f2⟩]; exact fun z => z rfl), if_pos rfl]
    rfl
  obtain ⟨oF, okF, eF, _⟩ := q.inv.here q.ok (i := f) q.f1.1 f2
  have okF : InGr g.ms.length (g.mb f) := okF
  have eF : (g.mb f).id = f := eF
  rw [q.many] at okF
  have htm : ¬ ((g.mb f).role = 2 ∨ 1073741824 ≤ (g.mb f).term) := by have := q.tc; omega
  have hlt : (g.mb f).term < 1073741824 := by omega
  have hs := okF.stand hlt
  have hb0 := (mayV_true okF.mb.ballot).1
  have hset0 := okF.mb.set0
  have fF := q.fit f q.f1.1 q.f1.2
  have hbal : ∀ m' : Mb, m'.term = (g.mb f).term + 1 → Bal Tc (g.mb f) m' := fun m' e => .inr (potB_less hb0 (by omega) (by omega))
  by_cases hw : (g.mb f).stand.won = true
  · have et : (g.mb f).timeout = ((g.mb f).stand.lead, (g.mb f).stand.lead.adds) := by unfold Mb.timeout; rw [if_neg htm, if_pos hw]
    rw [et] at eg
    simp only at eg
    have hl64 : (g.mb f).stand.log.length < 64 := by show (g.mb f).log.length < 64; have := q.nc; omega
    have L := fun (j : Int) (j1 : 1 ≤ j) (j2 : j ≤ (n : Int)) => lead_prAt hs.mb (by show 1 ≤ (g.mb f).term + 1; omega) hl64 j1 (by rw [hs.many]; exact j2)
    have Lf := L f q.f1.1 q.f1.2
    have Llog : (g.mb f).stand.lead.log = (g.mb f).log ++ [((g.mb f).term + 1, (0, 0, 0, 0, 0, 0))] := Lf.1
    have sid : (g.mb f).stand.id = f := eF
    have Lown : ((g.mb f).stand.lead.prAt f).1 = ((g.mb f).log.length : Int) + 1 := by have := Lf.2.1; rwa [sid] at this
    have hll := hs.lead (by show 1 ≤ (g.mb f).term + 1; omega)
    obtain ⟨b1, b2, b3⟩ := lead_ballot (g.mb f).stand
    have hterm : (g.mb f).stand.lead.term = (g.mb f).term + 1 := b2
    have hlen : (g.mb f).stand.lead.log.length = (g.mb f).log.length + 1 := by rw [Llog]; simp
    have hset : (g.mb f).settled ≤ (g.mb f).stand.lead.settled := Lf.2.2.2.2.2.1
    have hfix := Lf.2.2.2.2.1
    have hnx : ∀ j, 1 ≤ j → j ≤ (n : Int) → ((g.mb f).stand.lead.prAt j).2 = ((g.mb f).log.length : Int) + 1 := fun j j1 j2 => (L j j1 j2).2.2.1
    have hma : ∀ j, 1 ≤ j → j ≤ (n : Int) → j ≠ f → ((g.mb f).stand.lead.prAt j).1 = 0 := fun j j1 j2 j3 => (L j j1 j2).2.2.2.1 (by rw [sid]; exact j3)
    have hrole := lead_role (g.mb f).stand
    generalize (g.mb f).stand.lead = m' at *
    obtain ⟨a1, a2, a3, a4, a5⟩ := q.acts (said := m'.adds) (X' := m'.log) hll (by omega) (by omega) (fun e he => by
      rw [Llog] at he
      rcases List.mem_append.1 he with z | z
      · exact fF.fair e z
      · rw [List.mem_singleton] at z; subst z; exact zero_fair _) (hbal m' hterm) (by rw [Llog]; exact put_cost room)
    rw [← eg] at a1 a2 a3 a4 a5
    obtain ⟨se, hwt⟩ := Se.begin (c := 0) (M := 4 * (g.mb f).log.length + 6) ok' inv' a5 q.f1 q.nc q.tc (fun k k1 k2 => by
      rw [a2]
      by_cases z : k = f
      · rw [z]; exact a4
      · rw [(a3 k k1 z).2, Llog]; exact (q.fit k k1 k2).grow room) (by rw [a2]; exact hrole) (by rw [a2]; omega) (by rw [a2, Llog, endT_snoc, hterm]) (by rw [a2]; exact hfix) (by rw [a2, Lown, hlen]; omega)
      (fun k k1 k2 k3 => by rw [a2, hma k k1 k2 k3, hnx k k1 k2]; omega) (by rw [a2]; exact a1) (by rw [a2]; omega)
      (fun k k1 k2 k3 => by
        rw [a2]
        unfold mu
        rw [hma k k1 k2 k3, hnx k k1 k2, hlen]
        split <;> omega)
    refine ⟨h', ex, se, ⟨by rw [a2]; exact hterm, by rw [a2, Llog, List.take_append_of_le_length (Nat.le_refl _), List.take_length], fun k k1 k3 => (a3 k k1 k3).1, .inr ⟨by rw [a2]; exact hrole, by rw [a2]; exact Llog⟩⟩, fun terms => ⟨fun k k1 k2 => ?_, by rw [a2]; exact hterm, ?_, .inl ⟨by rw [a2]; exact hrole, by rw [a2]; exact Llog⟩⟩, hwt⟩
    · by_cases z : k = f
      · rw [z, a2, hterm]; exact Int.le_refl _
      · rw [(a3 k k1 z).1]; have := terms k k1 k2; omega
    · rw [a1]
      exact toAll_pair (f := m'.addn) (fun i j _ e1 _ => absurd e1 (by show ¬ (2 : Int) = 0; decide)) _
  · have et : (g.mb f).timeout = ((g.mb f).stand, (g.mb f).stand.asks) := by unfold Mb.timeout; rw [if_neg htm, if_neg hw]
    rw [et] at eg
    simp only at eg
    obtain ⟨a1, a2, a3, a4, a5⟩ := q.acts (m' := (g.mb f).stand) (said := (g.mb f).stand.asks) (X' := (g.mb f).log) hs (by show (g.mb f).term + 1 ≤ _; exact hT) fF.len fF.fair (hbal _ rfl) stay_cost
    rw [← eg] at a1 a2 a3 a4 a5
    have hask : ∀ z ∈ (g.mb f).stand.asks, ∃ k : Int, 1 ≤ k ∧ k ≤ (n : Int) ∧ k ≠ f ∧ z = (g.mb f).stand.ask k := fun z hz => by
      obtain ⟨k, k1, k2, k3⟩ := toAll_mem hz
      have hm := hs.many
      exact ⟨(k : Int) + 1, by omega, by omega, by rw [← eF]; exact k2, k3⟩
    have hlf := hs.mb.lastF
    have et1 : (g.mb f).stand.term = (g.mb f).term + 1 := rfl
    refine ⟨h', ex, ⟨ok', inv', a5, q.f1, q.nc, q.tc, fun k k1 k2 => ?_, fun _ => by rw [a2]; exact room, fun z hz => ?_, ?_, by rw [a2]; exact ⟨Int.le_refl _, hset0⟩, fun z => ?_, fun k k1 k2 => ?_⟩, ⟨by rw [a2]; rfl, by rw [a2]; exact List.take_length, fun k k1 k3 => (a3 k k1 k3).1, .inl ⟨by rw [a2]; rfl, by rw [a2]; rfl⟩⟩, fun terms => ⟨fun k k1 k2 => ?_, by rw [a2]; rfl, ?_, .inr ⟨by rw [a2]; rfl, by rw [a2]; rfl, ?_, ?_, fun k k1 k2 k3 => .inr (.inl ⟨(g.mb f).stand.ask k, ?_, rfl, rfl, rfl, ?_, ?_⟩)⟩⟩, ?_⟩
    · rw [a2]
      by_cases z : k = f
      · rw [z]; exact a4
      · rw [(a3 k k1 z).2]; exact q.fit k k1 k2
    · rw [a1] at hz
      obtain ⟨k, k1, k2, k3, rfl⟩ := hask z hz
      have kk : ((g.mb f).stand.ask k).kind = 0 := rfl
      have kf : ((g.mb f).stand.ask k).frm = f := eF
      have kt : ((g.mb f).stand.ask k).term = (g.mb f).term + 1 := rfl
      exact ⟨fun _ => ⟨kf, k3⟩, fun z => by omega, by omega, by rw [kf, a2, kt]; exact Int.le_refl _, fun _ => by omega, fun _ _ => by omega, fun _ => by omega, fun _ => by omega, fun _ => by omega, fun _ => by omega⟩
    · rw [a1]
      exact toAll_pair (f := (g.mb f).stand.ask) (R := fun x y => 2 ≤ x.kind → 2 ≤ y.kind → conv x ≠ conv y) (fun i j hij e1 _ => absurd e1 (by show ¬ (2 : Int) ≤ 0; decide)) _
    · rw [a2] at z
      exact absurd z (by show ¬ (1 : Int) = 2; decide)
    · by_cases z : k = f
      · rw [z]; exact .inl (Int.le_refl _)
      · exact .inr ⟨(g.mb f).stand.ask k, by rw [a1]; exact toAll_has k1 (by rw [hs.many]; exact k2) (by show k ≠ (g.mb f).id; rw [eF]; exact z), .inl ⟨.inl rfl, rfl⟩⟩
    · by_cases z : k = f
      · rw [z, a2]; exact Int.le_refl _
      · rw [(a3 k k1 z).1]; have := terms k k1 k2; omega
    · rw [a1]
      exact toAll_pair (f := (g.mb f).stand.ask) (fun i j hij _ _ => hij) _
    · rw [a2]
      cases z : (g.mb f).stand.won with
      | false => rfl
      | true => exact (hw z).elim
    · rw [a2]
      show f ∈ [(g.mb f).id]
      rw [eF]; simp
    · rw [a1]
      exact toAll_has k1 (by rw [hs.many]; exact k2) (by show k ≠ (g.mb f).id; rw [eF]; exact k3)
    · rw [(a3 k k1 k3).1]
      have := terms k k1 k2
      exact .inl (by omega)
    · rw [(a3 k k1 k3).1]
      show newerB (lastF 0 0 (g.mb f).stand.log).1 (lastF 0 0 (g.mb f).stand.log).2 _ _ = true
      rw [hlf]
      exact new k k1 k2 k3
    · unfold Wt
      rw [a1, a2, if_pos (show (g.mb f).stand.role = 1 from rfl)]
      have h1 : ((g.mb f).stand.asks.map (wt (g.does 0 f 0 0).1 f)).sum ≤ 2 * (g.mb f).stand.asks.length := sum_le_len fun z hz => by
        obtain ⟨k, k1, k2, k3, rfl⟩ := hask z hz
        have kk : ((g.mb f).stand.ask k).kind = 0 := rfl
        unfold wt
        rw [if_pos (.inl kk), if_neg (fun w => by have := w.1; omega)]
        exact Nat.le_refl _
      have h2 : (g.mb f).stand.asks.length ≤ n := Nat.le_trans (toAll_len (g.mb f).stand.id (g.mb f).stand.ask (g.mb f).stand.prog.length) (by have := hs.many; omega)
      have h3 : (4 * (g.mb f).stand.log.length + 4) * n + 2 * n = (4 * (g.mb f).log.length + 6) * n := by rw [← Nat.add_mul]; rfl
      omega
end Go.Proofs.YthjdbmfobmnnlaaGreat

/-
  One leads, and nothing is on its way; a group that goes.
-/
namespace Go.Proofs.YthjdbmfobmnnlaaGreat
open Go.RowKit
set_option linter.unusedVariables false
/-! ### One leads, and nothing is on its way -/
structure Top (n : Nat) (f c : Int) (Tc Nc : Nat) (g : Gr) (h : Gh) : Prop where
  calm : Calm n f Tc Nc g h
  role : (g.mb f).role = 2
  rest : Rest n f c g
  ld : Lead2 n f c g
theorem Se.top {n : Nat} {f c : Int} {Tc Nc : Nat} {g : Gr} {h : Gh} (s : Se n f c Tc Nc g h) (hnet : g.net = []) (hr : (g.mb f).role = 2) : Top n f c Tc Nc g h := ⟨s.calm hnet, hr, s.rest hnet hr, s.lead hr⟩
/-- It goes on to lead, with its log. -/
structure Kp (n : Nat) (f T : Int) (X : List En) (g : Gr) : Prop where
  all : ∀ k, 1 ≤ k → k ≤ (n : Int) → (g.mb k).term ≤ T
  term : (g.mb f).term = T
  role : (g.mb f).role = 2
  log : (g.mb f).log = X
theorem Kp.step {n : Nat} {f T c : Int} {X : List En} {Tc Nc : Nat} {g : Gr} {h : Gh} (s : Se n f c Tc Nc g h) (hne : g.net.length ≠ 0) (p : Kp n f T X g) : Kp n f T X (g.does 3 0 0 0).1 := by
  obtain ⟨h', ex, s', w, x, rest, hnet, hcase⟩ := s.step hne
  have hx : x ∈ g.net := by rw [hnet]; exact List.mem_cons_self
  have hm := s.ok.net x hx
  have nx := s.net x hx
  rcases hcase with ⟨hk, hF, y, hn', td, hmb, hgr⟩ | ⟨hk, m', X', said, a, hd, hs2⟩
  · obtain ⟨hfrm, hdst⟩ := nx.out hk
    have hxT : x.term ≤ T := by have := nx.t2; rw [hfrm, p.term] at this; exact this
    have hKT := p.all x.dst hm.dst.1 (by have := hm.dst.2; have := s.many; omega)
    refine ⟨fun k k1 k2 => ?_, by rw [hF]; exact p.term, by rw [hF]; exact p.role, by rw [hF]; exact p.log⟩
    rw [hmb k k1]
    split
    · rw [td.term]; omega
    · exact p.all k k1 k2
  · have hxT : x.term ≤ T := Int.le_trans nx.t2 (p.all x.frm hm.frm.1 (by have := hm.frm.2; have := s.many; omega))
    have hr := p.role
    rcases hd with ⟨q, _⟩ | ⟨_, d1, d2, d3, _⟩ | ⟨_, d1, _⟩
    · rw [p.term] at q; omega
    · refine ⟨fun k k1 k2 => ?_, by rw [a.mb, d1]; exact p.term, by rw [a.mb, d3]; exact hr, by rw [a.mb, d2]; exact p.log⟩
      by_cases q : k = f
      · rw [q, a.mb, d1, p.term]; exact Int.le_refl _
      · rw [a.oth k k1 q]; exact p.all k k1 k2
    · omega
theorem took_all {m : Mb} (ok : MbOk m) (hr : m.role = 2) (hl : m.log.length < 64) (c : Cm) : (m.took c).log = m.log ++ [(m.term, c)] ∧ (m.took c).term = m.term ∧ (m.took c).vote = m.vote ∧ (m.took c).role = 2 ∧ (m.took c).id = m.id ∧ ((m.took c).prAt m.id).1 = (m.log.length : Int) + 1 ∧ (∀ j, 1 ≤ j → j ≠ m.id → (m.took c).prAt j = m.prAt j) ∧ (m.took c).settle = m.took c ∧ m.settled ≤ (m.took c).settled := by
  have ht : 1 ≤ m.term := ok.live (by omega)
  have i1 := ok.id1
  have i2 := ok.idn
  have okp := ok.put ht c
  have hput : m.put c = { m with log := m.log ++ [(m.term, c)] } := by
    unfold Mb.put
    rw [if_neg (by omega)]
  have hlf := okp.lastF
  have hlen : (m.put c).log.length = m.log.length + 1 := by rw [hput]; simp
  have hmk : (m.put c).mark = (m.put c).setPr m.id ((lastF 0 0 (m.put c).log).1, ((m.put c).prAt m.id).2) := by
    unfold Mb.mark Mb.setPr
    rw [(put_facts m c).1]
  have hup := settle_up okp.mark
  refine ⟨by show (m.put c).log = _; rw [hput], (put_facts m c).2.2.1, (put_facts m c).2.2.2.1, (put_facts m c).2.1.trans hr, (put_facts m c).1, ?_, fun j j1 j2 => ?_, settle_fix okp.mark, ?_⟩
  · show ((m.put c).mark.prAt m.id).1 = _
    rw [hmk, setPr_get _ (by rw [(put_facts m c).2.2.2.2.1]; omega), hlf, hlen]
    simp
  · show (m.put c).mark.prAt j = _
    rw [hmk]
    rcases (m.put c).setPr_prAt (j := j) (k := m.id) j1 i1 ((lastF 0 0 (m.put c).log).1, ((m.put c).prAt m.id).2) with ⟨_, e⟩ | e
    · exact (j2 e).elim
    · rw [e, hput]; rfl
  · have e : (m.put c).mark.settled = m.settled := (put_facts m c).2.2.2.2.2.1
    rw [e] at hup
    exact hup
/-- It takes a command. -/
theorem Top.propose {n : Nat} {f c : Int} {Tc Nc : Nat} {g : Gr} {h : Gh} (t : Top n f c Tc Nc g h) (room : (g.mb f).log.length < Nc) {a b : Int} (ha : 0 ≤ a ∧ a ≤ 1073741824) (hb : 0 ≤ b ∧ b ≤ 1073741824) :
    (g.does 2 f a b).2 = 0 ∧ ∃ h', Ext h h' ∧ Se n f 0 Tc Nc (g.does 2 f a b).1 h' ∧ Kp n f (g.mb f).term ((g.mb f).log ++ [((g.mb f).term, Gr.cmd a b)]) (g.does 2 f a b).1 ∧ Wt n f (g.does 2 f a b).1 ≤ 4 * n := by
  have q := t.calm
  have f2 : f ≤ (g.ms.length : Int) := by have := q.f1.2; have := q.many; omega
  obtain ⟨h', ex, inv'⟩ := q.inv.does q.ok 2 f a b
  have ok' := q.ok.does 2 f a b
  obtain ⟨oF, okF, eF, _⟩ := q.inv.here q.ok (i := f) q.f1.1 f2
  have okF : InGr g.ms.length (g.mb f) := okF
  have eF : (g.mb f).id = f := eF
  rw [q.many] at okF
  have hl64 : (g.mb f).log.length < 64 := by have := q.nc; omega
  have ht1 : 1 ≤ (g.mb f).term := okF.mb.live (by have := t.role; omega)
  have hv := mayV_true okF.mb.ballot
  have hpr : (g.mb f).propose (Gr.cmd a b) = ((g.mb f).took (Gr.cmd a b), (lastF 0 0 ((g.mb f).took (Gr.cmd a b)).log).1, ((g.mb f).took (Gr.cmd a b)).adds, 0) := by
    unfold Mb.propose
    rw [if_neg (by rw [t.role]; exact fun z => z rfl), if_neg (by omega)]
  have eg : g.does 2 f a b = (g.acts f ((g.mb f).took (Gr.cmd a b)) ((g.mb f).took (Gr.cmd a b)).adds, 0) := by
    unfold Gr.does
    rw [if_neg (by rw [there_m0 (.inr (.inr (.inl rfl))) ⟨q.f1.1, f2⟩]; exact fun z => z rfl), if_neg (by decide), if_neg (by decide), if_pos rfl]
    unfold Gr.propose
    have e1 : ((g.at_ f).1.propose (Gr.cmd a b)) = _ := hpr
    rw [if_neg (by omega), e1, if_pos rfl]
  have hwf : EnWf ((g.mb f).term, Gr.cmd a b) := cmd_wf (by omega) ha hb
  have hin := okF.took ht1 hwf
  obtain ⟨k1, k2, k3, k4, k5, k6, k7, k8, k9⟩ := took_all okF.mb t.role hl64 (Gr.cmd a b)
  rw [eF] at k5 k6 k7
  rw [eg] at ok' inv' ⊢
  simp only at ok' inv' ⊢
  have hset0 := okF.mb.set0
  have fF := q.fit f q.f1.1 q.f1.2
  have hfair : EnFair ((g.mb f).term, Gr.cmd a b) := by
    unfold EnFair Fair Gr.cmd
    intro v hv
    simp only [List.mem_cons, List.not_mem_nil, or_false] at hv
    rcases hv with rfl | rfl | rfl | rfl | rfl | rfl <;> omega
  have hlen : ((g.mb f).took (Gr.cmd a b)).log.length = (g.mb f).log.length + 1 := by rw [k1]; simp
  generalize (g.mb f).took (Gr.cmd a b) = m' at *
  obtain ⟨a1, a2, a3, a4, a5⟩ := q.acts (said := m'.adds) (X' := m'.log) hin (by rw [k2]; exact fF.term) (by omega) (fun e he => by
    rw [k1] at he
    rcases List.mem_append.1 he with z | z
    · exact fF.fair e z
    · rw [List.mem_singleton] at z; subst z; exact hfair) (.inl ⟨k2, k3⟩) (by rw [k1]; exact put_cost room)
  have hmat : ∀ k, 1 ≤ k → k ≤ (n : Int) → k ≠ f → m'.prAt k = (((g.mb f).log.length : Int), ((g.mb f).log.length : Int) + 1) := fun k z1 z2 z3 => by rw [k7 k z1 z3]; exact t.rest.mat k z1 z2 z3
  obtain ⟨se, hwt⟩ := Se.begin (c := 0) (M := 4) ok' inv' a5 q.f1 q.nc q.tc (fun k z1 z2 => by
    rw [a2]
    by_cases z : k = f
    · rw [z]; exact a4
    · rw [(a3 k z1 z).2, k1]; exact (q.fit k z1 z2).grow room) (by rw [a2]; exact k4) (by rw [a2]; omega) (by rw [a2, k1, endT_snoc, k2]) (by rw [a2]; exact k8) (by rw [a2, k6, hlen]; omega)
    (fun k z1 z2 z3 => by rw [a2, hmat k z1 z2 z3]; simp only; omega) (by rw [a2]; exact a1) (by rw [a2]; omega)
    (fun k z1 z2 z3 => by
      rw [a2]
      unfold mu
      rw [hmat k z1 z2 z3, hlen]
      simp only
      split <;> omega)
  refine ⟨trivial, h', ex, se, ⟨fun k z1 z2 => ?_, by rw [a2]; exact k2, by rw [a2]; exact k4, by rw [a2]; exact k1⟩, hwt⟩
  by_cases z : k = f
  · rw [z, a2, k2]; exact Int.le_refl _
  · rw [(a3 k z1 z).1, t.rest.term k z1 z2]; exact Int.le_refl _
/-- It tells all that it leads. -/
theorem Top.beat {n : Nat} {f c : Int} {Tc Nc : Nat} {g : Gr} {h : Gh} (t : Top n f c Tc Nc g h) :
    ∃ h', Ext h h' ∧ Se n f ((g.mb f).log.length : Int) Tc Nc (g.does 1 f 0 0).1 h' ∧ Kp n f (g.mb f).term (g.mb f).log (g.does 1 f 0 0).1 ∧ Wt n f (g.does 1 f 0 0).1 ≤ 2 * n := by
  have q := t.calm
  have f2 : f ≤ (g.ms.length : Int) := by have := q.f1.2; have := q.many; omega
  obtain ⟨h', ex, inv'⟩ := q.inv.does q.ok 1 f 0 0
  have ok' := q.ok.does 1 f 0 0
  obtain ⟨oF, okF, eF, _⟩ := q.inv.here q.ok (i := f) q.f1.1 f2
  have okF : InGr g.ms.length (g.mb f) := okF
  rw [q.many] at okF
  have eg : (g.does 1 f 0 0).1 = g.acts f (g.mb f) (g.mb f).adds := by
    unfold Gr.does
    rw [if_neg (by rw [there_m0 (.inr (.inl rfl)) ⟨q.f1.1, f2⟩]; exact fun z => z rfl), if_neg (by decide), if_pos rfl]
    have e : (g.at_ f).1.beat = (g.mb f, (g.mb f).adds) := by
      show (g.mb f).beat = _
      unfold Mb.beat
      rw [if_pos t.role]
    rw [e]
  rw [eg] at ok' inv' ⊢
  have fF := q.fit f q.f1.1 q.f1.2
  obtain ⟨a1, a2, a3, a4, a5⟩ := q.acts (m' := g.mb f) (said := (g.mb f).adds) (X' := (g.mb f).log) okF fF.term fF.len fF.fair (.inl ⟨rfl, rfl⟩) stay_cost
  obtain ⟨se, hwt⟩ := Se.begin (c := ((g.mb f).log.length : Int)) (M := 2) ok' inv' a5 q.f1 q.nc q.tc (fun k z1 z2 => by
    rw [a2]
    by_cases z : k = f
    · rw [z]; exact a4
    · rw [(a3 k z1 z).2]; exact q.fit k z1 z2) (by rw [a2]; exact t.role) (by rw [a2]; exact t.ld.one) (by rw [a2]; exact t.ld.last) (by rw [a2]; exact t.ld.sfix) (by rw [a2]; exact t.ld.own)
    (fun k z1 z2 z3 => by rw [a2, t.rest.mat k z1 z2 z3]; simp only; omega) (by rw [a2]; exact a1) (by rw [a2, t.rest.lead]; omega)
    (fun k z1 z2 z3 => by
      rw [a2]
      unfold mu
      rw [t.rest.mat k z1 z2 z3]
      simp only
      split <;> omega)
  refine ⟨h', ex, se, ⟨fun k z1 z2 => ?_, by rw [a2], by rw [a2]; exact t.role, by rw [a2]⟩, hwt⟩
  by_cases z : k = f
  · rw [z, a2]; exact Int.le_refl _
  · rw [(a3 k z1 z).1, t.rest.term k z1 z2]; exact Int.le_refl _
end Go.Proofs.YthjdbmfobmnnlaaGreat
