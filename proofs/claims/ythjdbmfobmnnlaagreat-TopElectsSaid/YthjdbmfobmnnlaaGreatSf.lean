/-
  Sf: several texts in one.
-/
import Derived.Test.YthjdbmfobmnnlaaGreatGp
import Derived.Test.YthjdbmfobmnnlaaGreatBi
/-
  Logs of which each entry is of its term s leader; leader completeness.
-/
namespace Go.Proofs.YthjdbmfobmnnlaaGreat
open Go.RowKit
set_option linter.unusedVariables false
/-! ### What is known of a group beside its state (for the proof alone) -/
/-- Who leads a term, its log, whom each voted for in a term, its log then, a candidate's log, how far each has taken a leader's log, and whose votes made a leader. -/
structure Gh where
  ld : Int → Int
  ll : Int → List En
  vt : Int → Int → Int
  vl : Int → Int → List En
  cl : Int → Int → List En
  ac : Int → Int → Nat
  qv : Int → List Int
/-- A log begins as that of a term's leader, up to an entry (and with it). -/
def Pre (h : Gh) (X : List En) (t : Int) (k : Nat) : Prop := k < (h.ll t).length ∧ X.take (k + 1) = (h.ll t).take (k + 1)
/-- Each entry of a log is one of its term's leader, and so is all ahead of it. -/
def Lm (h : Gh) (X : List En) : Prop := ∀ (k : Nat) (e : En), X[k]? = some e → h.ld e.1 ≠ 0 ∧ Pre h X e.1 k
theorem Pre.len {h : Gh} {X : List En} {t : Int} {k : Nat} (p : Pre h X t k) : k < X.length := by
  have := congrArg List.length p.2
  rw [List.length_take, List.length_take] at this
  have := p.1
  omega
theorem Pre.le {h : Gh} {X : List En} {t : Int} {k j : Nat} (p : Pre h X t k) (hj : j ≤ k) : Pre h X t j := by
  refine ⟨by have := p.1; omega, ?_⟩
  have := congrArg (List.take (j + 1)) p.2
  rwa [List.take_take, List.take_take, Nat.min_eq_left (by omega)] at this
theorem Pre.of_take {h : Gh} {X Y : List En} {t : Int} {k n : Nat} (p : Pre h X t k) (hn : k < n) (e : Y.take n = X.take n) : Pre h Y t k := by
  refine ⟨p.1, ?_⟩
  have := congrArg (List.take (k + 1)) e
  rw [List.take_take, List.take_take, Nat.min_eq_left (by omega)] at this
  rw [this]
  exact p.2
theorem Pre.at_ {h : Gh} {X : List En} {t : Int} {k j : Nat} (p : Pre h X t k) (hj : j ≤ k) : X[j]? = (h.ll t)[j]? := by
  have := congrArg (fun l => l[j]?) p.2
  simp only [List.getElem?_take] at this
  rwa [if_pos (by omega), if_pos (by omega)] at this
theorem Lm.take {h : Gh} {X : List En} (l : Lm h X) (n : Nat) : Lm h (X.take n) := by
  intro k e hk
  rw [List.getElem?_take] at hk
  split at hk
  · rename_i hlt
    obtain ⟨h1, h2⟩ := l k e hk
    exact ⟨h1, h2.of_take hlt (by rw [List.take_take, Nat.min_self])⟩
  · cases hk
/-- Two logs that have an entry of one index and term are the same up to it. -/
theorem Lm.same {h : Gh} {X Y : List En} (hx : Lm h X) (hy : Lm h Y) {k : Nat} {e f : En} (hk : X[k]? = some e) (hf : Y[k]? = some f) (ht : e.1 = f.1) : X.take (k + 1) = Y.take (k + 1) := by
  have h1 := (hx k e hk).2.2
  have h2 := (hy k f hf).2.2
  rw [h1, h2, ht]
/-- Whether a log is a prefix of another one. -/
theorem pre_take {X Y : List En} (h : X <+: Y) {n : Nat} (hn : n ≤ X.length) : X.take n = Y.take n := by
  obtain ⟨Z, rfl⟩ := h
  rw [List.take_append_of_le_length hn]
/-- More is known later. -/
structure Ext (h h' : Gh) : Prop where
  ld : ∀ T, h.ld T ≠ 0 → h'.ld T = h.ld T
  ll : ∀ T, h.ld T ≠ 0 → h.ll T <+: h'.ll T
  vt : ∀ j T, h.vt j T ≠ 0 → h'.vt j T = h.vt j T
  vl : ∀ j T, h.vt j T ≠ 0 → h'.vl j T = h.vl j T
  ac : ∀ j T, h.ac j T ≤ h'.ac j T
  qv : ∀ T, h.ld T ≠ 0 → h'.qv T = h.qv T
theorem Ext.refl (h : Gh) : Ext h h := ⟨fun _ _ => rfl, fun _ _ => List.prefix_refl _, fun _ _ _ => rfl, fun _ _ _ => rfl, fun _ _ => Nat.le_refl _, fun _ _ => rfl⟩
theorem Pre.ext {h h' : Gh} {X : List En} {t : Int} {k : Nat} (x : Ext h h') (p : Pre h X t k) (hl : h.ld t ≠ 0) : Pre h' X t k := by
  have hp := x.ll t hl
  refine ⟨Nat.lt_of_lt_of_le p.1 hp.length_le, ?_⟩
  rw [← pre_take hp (by have := p.1; omega)]
  exact p.2
theorem Lm.ext {h h' : Gh} {X : List En} (x : Ext h h') (l : Lm h X) : Lm h' X := by
  intro k e hk
  obtain ⟨h1, h2⟩ := l k e hk
  exact ⟨by rw [x.ld _ h1]; exact h1, h2.ext x h1⟩
/-- A log that is merged with what another one has, behind where both are the same: either nothing changes, or it is the other one's from where they part. -/
theorem merge_cases {h : Gh} {X Y : List En} (hX : Lm h X) (hY : Lm h Y) : ∀ (n i : Nat), i ≤ X.length → i + n ≤ Y.length → X.take i = Y.take i → ∃ c, i ≤ c ∧ c ≤ i + n ∧ X.take c = Y.take c ∧ c ≤ X.length ∧
    ((c = i + n ∧ mergeL X i ((Y.drop i).take n) = X) ∨ (c < i + n ∧ mergeL X i ((Y.drop i).take n) = Y.take (i + n) ∧ ∀ e f, X[c]? = some e → Y[c]? = some f → e.1 ≠ f.1)) := by
  intro n
  induction n with
  | zero =>
    intro i hi hn he
    exact ⟨i, Nat.le_refl _, Nat.le_refl _, he, hi, .inl ⟨rfl, by simp [mergeL]⟩⟩
  | succ n ih =>
    intro i hi hn he
    have hlt : i < Y.length := by omega
    have hd : (Y.drop i).take (n + 1) = Y[i] :: (Y.drop (i + 1)).take n := by rw [List.drop_eq_getElem_cons hlt, List.take_succ_cons]
    rw [hd]
    by_cases hc : i < X.length ∧ (X.getD i default).1 = (Y[i]).1
    · rw [mergeL_same hc]
      have hx : X[i]? = some X[i] := List.getElem?_eq_getElem hc.1
      have ht : (X[i]).1 = (Y[i]).1 := by
        have := hc.2
        rwa [List.getD_eq_getElem?_getD, hx] at this
      have hs := hX.same hY hx (List.getElem?_eq_getElem hlt) ht
      obtain ⟨c, h1, h2, h3, h4, h5⟩ := ih (i + 1) (by omega) (by omega) hs
      refine ⟨c, by omega, by omega, h3, h4, ?_⟩
      rcases h5 with ⟨h6, h7⟩ | ⟨h6, h7, h8⟩
      · exact .inl ⟨by omega, h7⟩
      · exact .inr ⟨by omega, by rw [h7, show i + 1 + n = i + (n + 1) by omega], h8⟩
    · rw [mergeL_new hc]
      refine ⟨i, Nat.le_refl _, by omega, he, hi, .inr ⟨by omega, ?_, ?_⟩⟩
      · rw [he, ← hd]
        exact (List.take_add ..).symm
      · intro e f h1 h2 h3
        apply hc
        obtain ⟨h4, h5⟩ := List.getElem?_eq_some_iff.1 h1
        refine ⟨h4, ?_⟩
        rw [List.getD_eq_getElem?_getD, h1]
        obtain ⟨_, h6⟩ := List.getElem?_eq_some_iff.1 h2
        rw [h6]
        exact h3
set_option linter.unusedVariables false
theorem meet {n : Nat} {A Q : List Int} (hA : A.Nodup) (hQ : Q.Nodup) (ha : majN n ≤ A.length) (hq : majN n ≤ Q.length) (a1 : ∀ j ∈ A, 1 ≤ j ∧ j ≤ (n : Int)) (q1 : ∀ j ∈ Q, 1 ≤ j ∧ j ≤ (n : Int)) : ∃ j ∈ A, j ∈ Q := by
  refine Classical.byContradiction fun hno => ?_
  have hd : ∀ j ∈ A, ∀ i ∈ Q, j ≠ i := fun j hj i hi e => hno ⟨j, hj, e ▸ hi⟩
  have hn : (A ++ Q).Nodup := List.nodup_append.2 ⟨hA, hQ, hd⟩
  have := nodup_le hn n fun v hv => by
    rcases List.mem_append.1 hv with h | h
    · exact a1 v h
    · exact q1 v h
  rw [List.length_append] at this
  unfold majN at *
  omega
/-- What holds of what is known. -/
structure Gi (n : Nat) (h : Gh) : Prop where
  lm : ∀ T, h.ld T ≠ 0 → Lm h (h.ll T)
  le : ∀ T, h.ld T ≠ 0 → ∀ e ∈ h.ll T, e.1 ≤ T
  pre : ∀ T, h.ld T ≠ 0 → h.cl (h.ld T) T <+: h.ll T
  own : ∀ T, h.ld T ≠ 0 → ∀ k e, (h.cl (h.ld T) T).length ≤ k → (h.ll T)[k]? = some e → e.1 = T
  old : ∀ T, h.ld T ≠ 0 → ∀ e ∈ h.cl (h.ld T) T, e.1 < T
  quorum : ∀ T, h.ld T ≠ 0 → (h.qv T).Nodup ∧ majN n ≤ (h.qv T).length ∧ ∀ j ∈ h.qv T, (1 ≤ j ∧ j ≤ (n : Int)) ∧ h.vt j T = h.ld T
  newer : ∀ j T, h.vt j T ≠ 0 → newerB ((h.cl (h.vt j T) T).length : Int) (endT (h.cl (h.vt j T) T) 0) ((h.vl j T).length : Int) (endT (h.vl j T) 0) = true
  vlm : ∀ j T, h.vt j T ≠ 0 → Lm h (h.vl j T) ∧ rising (h.vl j T) 0 = true
  keeps : ∀ j T, h.vt j T ≠ 0 → (h.ld T = 0 ∨ j ∈ h.qv T) → ∀ t k, t < T → k < h.ac j t → Pre h (h.vl j T) t k ∨ ∃ T', t < T' ∧ T' < T ∧ h.ld T' ≠ 0 ∧ ¬ Pre h (h.ll T') t k
  acc : ∀ j t, 0 < h.ac j t → h.ld t ≠ 0 ∧ h.ac j t ≤ (h.ll t).length
  self : ∀ j T, h.vt j T ≠ 0 → h.vt (h.vt j T) T = h.vt j T
/-- A majority has taken an entry that its term's leader made. -/
def Cm' (n : Nat) (h : Gh) (t : Int) (k : Nat) : Prop := (∃ A : List Int, A.Nodup ∧ majN n ≤ A.length ∧ ∀ j ∈ A, (1 ≤ j ∧ j ≤ (n : Int)) ∧ k < h.ac j t) ∧ ∃ e, (h.ll t)[k]? = some e ∧ e.1 = t
theorem endT_last {es : List En} {f : Int} (hne : es ≠ []) : ∃ e, es[es.length - 1]? = some e ∧ endT es f = e.1 := by
  have hl : es.length ≠ 0 := fun h => hne (List.eq_nil_of_length_eq_zero h)
  refine ⟨es[es.length - 1]'(by omega), List.getElem?_eq_getElem (by omega), ?_⟩
  unfold endT
  rw [List.getLast?_eq_getElem?, List.getElem?_eq_getElem (by omega)]
/-- Who leads later has what a majority has taken. -/
theorem complete {n : Nat} {h : Gh} (gi : Gi n h) {t : Int} {k : Nat} (hc : Cm' n h t k) : ∀ (d : Nat) (T : Int), t < T → T - t ≤ d → h.ld T ≠ 0 → Pre h (h.ll T) t k := by
  intro d
  induction d with
  | zero => intro T h1 h2; omega
  | succ d ih =>
    intro T h1 h2 hT
    obtain ⟨⟨A, a1, a2, a3⟩, e, he, het⟩ := hc
    obtain ⟨q1, q2, q3⟩ := gi.quorum T hT
    obtain ⟨j, jA, jQ⟩ := meet a1 q1 a2 q2 (fun j hj => (a3 j hj).1) (fun j hj => (q3 j hj).1)
    have hv := (q3 j jQ).2
    have hv0 : h.vt j T ≠ 0 := by rw [hv]; exact hT
    have hacc := (a3 j jA).2
    have hlt := gi.acc j t (by omega)
    have hvp : Pre h (h.vl j T) t k := by
      rcases gi.keeps j T hv0 (.inr jQ) t k h1 hacc with p | ⟨T', p1, p2, p3, p4⟩
      · exact p
      · exact (p4 (ih T' p1 (by omega) p3)).elim
    have hnew := gi.newer j T hv0
    rw [hv] at hnew
    obtain ⟨vlm, vri⟩ := gi.vlm j T hv0
    have hpre := gi.pre T hT
    have hL0 : Lm h (h.cl (h.ld T) T) := by
      have e1 : h.cl (h.ld T) T = (h.ll T).take (h.cl (h.ld T) T).length := by rw [← pre_take hpre (Nat.le_refl _), List.take_length]
      rw [e1]
      exact (gi.lm T hT).take _
    have hold := gi.old T hT
    generalize h.cl (h.ld T) T = C at *
    -- the voter's log is not empty
    have hvk := hvp.len
    have hvne : h.vl j T ≠ [] := fun e0 => by rw [e0] at hvk; simp at hvk
    obtain ⟨ev, hev, hevt⟩ := endT_last (f := 0) hvne
    have hke : (h.vl j T)[k]? = some e := by rw [hvp.at_ (Nat.le_refl _)]; exact he
    have htle : t ≤ endT (h.vl j T) 0 := by
      have := (rising_le vri e (List.mem_of_getElem? hke)).2
      omega
    have ht1 : 1 ≤ t := by
      have := rising_at hvk vri
      have e2 : (h.vl j T)[k] = e := by
        have := List.getElem?_eq_getElem hvk
        rw [hke] at this
        injection this with this
        exact this.symm
      rw [e2] at this
      omega
    unfold newerB at hnew
    rw [decide_eq_true_eq] at hnew
    have hCne : C ≠ [] := fun e0 => by
      subst e0
      rw [endT_nil] at hnew
      simp at hnew
      omega
    obtain ⟨ec, hec, hect⟩ := endT_last (f := 0) hCne
    have hCl : C.length ≠ 0 := fun e0 => hCne (List.eq_nil_of_length_eq_zero e0)
    have hCp : Pre h C t k := by
      rcases hnew with hn | ⟨hn1, hn2⟩
      · -- its last entry is of a later term, whose leader has it
        have hu := hL0 _ ec hec
        have huT : ec.1 < T := hold ec (List.mem_of_getElem? hec)
        have hup := ih ec.1 (by omega) (by omega) hu.1
        have hgt : k < C.length - 1 := by
          refine Nat.lt_of_not_le fun hle => ?_
          have h5 := hup.at_ (j := C.length - 1) hle
          have h6 := hu.2.at_ (j := C.length - 1) (Nat.le_refl _)
          rw [hec, h5] at h6
          have := gi.le t hlt.1 ec (List.mem_of_getElem? h6.symm)
          omega
        refine ⟨hvp.1, ?_⟩
        have h7 := (hu.2.le (Nat.le_of_lt hgt)).2
        rw [h7]
        exact hup.2
      · -- both end with the same term
        have hs := hL0 _ ec hec
        have hsv := vlm _ ev hev
        have hee : ec.1 = ev.1 := by omega
        have hlen : (h.vl j T).length ≤ C.length := by omega
        rw [← hee] at hsv
        have h8 := (hs.2.le (j := (h.vl j T).length - 1) (by omega)).2
        have h9 := hsv.2.2
        have hvl : (h.vl j T).length - 1 + 1 = (h.vl j T).length := by omega
        rw [hvl] at h8 h9
        exact hvp.of_take (n := (h.vl j T).length) hvk (by rw [h8, h9])
    refine ⟨hCp.1, ?_⟩
    have hck := hCp.len
    rw [← pre_take hpre (by omega)]
    exact hCp.2
end Go.Proofs.YthjdbmfobmnnlaaGreat

/-
  What is known of members and messages.
-/
namespace Go.Proofs.YthjdbmfobmnnlaaGreat
open Go.RowKit
set_option linter.unusedVariables false
/-- A prefix that a majority has taken, by a term. -/
def Cp (n : Nat) (h : Gh) (T : Int) (Y : List En) : Prop := Y = [] ∨ ∃ t k, t ≤ T ∧ Cm' n h t k ∧ Y.length ≤ k + 1 ∧ Y = (h.ll t).take Y.length
/-- More is known later, of one member's doing. -/
structure By (i : Int) (h h' : Gh) : Prop where
  ext : Ext h h'
  vt : ∀ j T, j ≠ i → h'.vt j T = h.vt j T
  vl : ∀ j T, j ≠ i → h'.vl j T = h.vl j T
  cl : ∀ j T, j ≠ i → h'.cl j T = h.cl j T
  cli : ∀ T, h.vt i T = i → h'.cl i T = h.cl i T
  ac : ∀ j T, j ≠ i → h'.ac j T = h.ac j T
  ld : ∀ T, h'.ld T = h.ld T ∨ (h.ld T = 0 ∧ h'.ld T = i)
  ll : ∀ T, h.ld T ≠ 0 → h.ld T ≠ i → h'.ll T = h.ll T
  vn : ∀ T, h'.vt i T = h.vt i T ∨ h'.vt i T = i ∨ h.vt (h'.vt i T) T = h'.vt i T
theorem By.refl (i : Int) (h : Gh) : By i h h := ⟨.refl h, fun _ _ _ => rfl, fun _ _ _ => rfl, fun _ _ _ => rfl, fun _ _ => rfl, fun _ _ _ => rfl, fun _ => .inl rfl, fun _ _ _ => rfl, fun _ => .inl rfl⟩
theorem Cm'.lead {n : Nat} {h : Gh} (gi : Gi n h) {t : Int} {k : Nat} (c : Cm' n h t k) : h.ld t ≠ 0 ∧ k < (h.ll t).length := by
  obtain ⟨⟨A, a1, a2, a3⟩, e, he, _⟩ := c
  have hne : A ≠ [] := fun e0 => by subst e0; unfold majN at a2; simp at a2
  obtain ⟨j, hj⟩ := List.exists_mem_of_ne_nil A hne
  have h1 := (a3 j hj).2
  exact ⟨(gi.acc j t (by omega)).1, (List.getElem?_eq_some_iff.1 he).1⟩
theorem Cm'.ext {n : Nat} {h h' : Gh} (gi : Gi n h) (x : Ext h h') {t : Int} {k : Nat} (c : Cm' n h t k) : Cm' n h' t k := by
  obtain ⟨hl, hk⟩ := c.lead gi
  obtain ⟨⟨A, a1, a2, a3⟩, e, he, het⟩ := c
  refine ⟨⟨A, a1, a2, fun j hj => ⟨(a3 j hj).1, Nat.lt_of_lt_of_le (a3 j hj).2 (x.ac j t)⟩⟩, e, ?_, het⟩
  have := congrArg (fun l => l[k]?) (pre_take (x.ll t hl) (n := k + 1) (by omega))
  simp only [List.getElem?_take, if_pos (Nat.lt_succ_self k)] at this
  rw [← this]
  exact he
theorem Cp.ext {n : Nat} {h h' : Gh} (gi : Gi n h) (x : Ext h h') {T : Int} {Y : List En} (c : Cp n h T Y) : Cp n h' T Y := by
  rcases c with c | ⟨t, k, c1, c2, c3, c4⟩
  · exact .inl c
  · obtain ⟨hl, hk⟩ := c2.lead gi
    refine .inr ⟨t, k, c1, c2.ext gi x, c3, ?_⟩
    rw [← pre_take (x.ll t hl) (by omega)]
    exact c4
theorem Cp.mono {n : Nat} {h : Gh} {T T' : Int} {Y : List En} (c : Cp n h T Y) (hT : T ≤ T') : Cp n h T' Y := by
  rcases c with c | ⟨t, k, c1, c2⟩
  · exact .inl c
  · exact .inr ⟨t, k, by omega, c2⟩
theorem Cp.take {n : Nat} {h : Gh} {T : Int} {Y : List En} (c : Cp n h T Y) (j : Nat) : Cp n h T (Y.take j) := by
  rcases c with c | ⟨t, k, c1, c2, c3, c4⟩
  · exact .inl (by rw [c, List.take_nil])
  · refine .inr ⟨t, k, c1, c2, by rw [List.length_take]; omega, ?_⟩
    rw [List.length_take]
    have := congrArg (List.take (min j Y.length)) c4
    rw [List.take_take, Nat.min_eq_left (Nat.min_le_right _ _)] at this
    rw [← this]
    by_cases hj : j ≤ Y.length
    · rw [Nat.min_eq_left hj]
    · rw [Nat.min_eq_right (by omega), List.take_length, List.take_of_length_le (by omega)]
/-- A prefix that a majority has taken is one of the log of each who leads then, or later. -/
theorem Cp.has {n : Nat} {h : Gh} (gi : Gi n h) {T T' : Int} {Y : List En} (c : Cp n h T Y) (hT : T ≤ T') (hl : h.ld T' ≠ 0) : Y.length ≤ (h.ll T').length ∧ Y = (h.ll T').take Y.length := by
  rcases c with c | ⟨t, k, c1, c2, c3, c4⟩
  · subst c; exact ⟨Nat.zero_le _, rfl⟩
  · obtain ⟨_, hk⟩ := c2.lead gi
    by_cases e : t = T'
    · subst e; exact ⟨by omega, c4⟩
    · have hp := complete gi c2 (T' - t).toNat T' (by omega) (by omega) hl
      have := (hp.le (Nat.le_refl k)).2
      refine ⟨by have := hp.len; omega, ?_⟩
      have h2 := congrArg (List.take Y.length) this
      rw [List.take_take, List.take_take, Nat.min_eq_left (by omega)] at h2
      rw [h2]
      exact c4
/-- Two prefixes that majorities have taken: the one begins as the other one. -/
theorem Cp.fits {n : Nat} {h : Gh} (gi : Gi n h) {T T' : Int} {Y Z : List En} (c : Cp n h T Y) (d : Cp n h T' Z) : Y.take (min Y.length Z.length) = Z.take (min Y.length Z.length) := by
  rcases c with c | ⟨t, k, c1, c2, c3, c4⟩
  · subst c; simp
  rcases d with d | ⟨u, l, d1, d2, d3, d4⟩
  · subst d; simp
  have c' : Cp n h t Y := .inr ⟨t, k, Int.le_refl _, c2, c3, c4⟩
  have d' : Cp n h u Z := .inr ⟨u, l, Int.le_refl _, d2, d3, d4⟩
  have hm : h.ld (max t u) ≠ 0 := by
    rcases Int.le_total t u with q | q
    · rw [Int.max_eq_right q]; exact (d2.lead gi).1
    · rw [Int.max_eq_left q]; exact (c2.lead gi).1
  have h1 := (c'.has gi (Int.le_max_left t u) hm).2
  have h2 := (d'.has gi (Int.le_max_right t u) hm).2
  have e1 := congrArg (List.take (min Y.length Z.length)) h1
  have e2 := congrArg (List.take (min Y.length Z.length)) h2
  rw [List.take_take, Nat.min_eq_left (Nat.min_le_left _ _)] at e1
  rw [List.take_take, Nat.min_eq_left (Nat.min_le_right _ _)] at e2
  rw [e1, e2]
/-- What a later leader lacks, it lacks for good. -/
theorem notPre_ext {n : Nat} {h h' : Gh} (gi : Gi n h) (le' : ∀ T, h'.ld T ≠ 0 → ∀ e ∈ h'.ll T, e.1 ≤ T) (own' : ∀ T, h'.ld T ≠ 0 → ∀ k e, (h'.cl (h'.ld T) T).length ≤ k → (h'.ll T)[k]? = some e → e.1 = T) (x : Ext h h') {t T : Int} {k : Nat} (ht : h.ld t ≠ 0) (hk : k < (h.ll t).length) (hT : h.ld T ≠ 0) (hlt : t < T) (hcl : (h'.cl (h'.ld T) T).length ≤ (h.ll T).length) (p : ¬ Pre h (h.ll T) t k) : ¬ Pre h' (h'.ll T) t k := fun q => by
  have e1 := pre_take (x.ll t ht) (n := k + 1) (by omega)
  by_cases hkl : k < (h.ll T).length
  · refine p ⟨hk, ?_⟩
    rw [pre_take (x.ll T hT) (n := k + 1) (by omega), e1]
    exact q.2
  · have hq := q.len
    have hj : (h.ll T).length < (h'.ll T).length := by omega
    have h1 := q.at_ (j := (h.ll T).length) (by omega)
    have hT' : h'.ld T ≠ 0 := by rw [x.ld T hT]; exact hT
    have ht' : h'.ld t ≠ 0 := by rw [x.ld t ht]; exact ht
    have h2 := own' T hT' (h.ll T).length _ hcl (List.getElem?_eq_getElem hj)
    rw [List.getElem?_eq_getElem hj] at h1
    have h3 := le' t ht' _ (List.mem_of_getElem? h1.symm)
    omega
/-- A member's part. -/
structure Mi (n : Nat) (h : Gh) (m : Mb) : Prop where
  lm : Lm h m.log
  led : m.role = 2 → h.ld m.term = m.id ∧ h.ll m.term = m.log ∧ m.log.length ≤ h.ac m.id m.term
  vote : h.vt m.id m.term = m.vote
  fut : ∀ T, m.term < T → h.vt m.id T = 0 ∧ h.ac m.id T = 0 ∧ h.ld T ≠ m.id
  futv : ∀ T j, m.term < T → h.vt j T ≠ m.id
  cand : m.role = 1 → h.cl m.id m.term = m.log ∧ h.ld m.term ≠ m.id ∧ m.vote = m.id ∧ ∀ v ∈ m.votes, (1 ≤ v ∧ v ≤ (n : Int)) ∧ h.vt v m.term = m.id
  keeps : ∀ t k, k < h.ac m.id t → Pre h m.log t k ∨ ∃ T', t < T' ∧ T' ≤ m.term ∧ h.ld T' ≠ 0 ∧ ¬ Pre h (h.ll T') t k
  mat : m.role = 2 → ∀ j : Int, 1 ≤ j → j ≤ n → (m.prAt j).1 ≤ h.ac j m.term
  nxt : m.role = 2 → ∀ j : Int, 1 ≤ j → j ≤ n → (m.prAt j).2 ≤ (m.log.length : Int) + 1
  set : m.settled ≤ m.log.length
  cp : Cp n h m.term (m.log.take m.settled.toNat)
/-- A message's part. -/
structure Xi (n : Nat) (h : Gh) (x : Ms) : Prop where
  ask : x.kind = 0 → h.vt x.frm x.term = x.frm ∧ x.index = ((h.cl x.frm x.term).length : Int) ∧ x.lterm = endT (h.cl x.frm x.term) 0
  say : x.kind = 1 → x.yes = true → h.vt x.frm x.term = x.dst
  add : x.kind = 2 → h.ld x.term = x.frm ∧ (0 ≤ x.index → x.index.toNat + x.ents.length ≤ (h.ll x.term).length ∧ x.ents = ((h.ll x.term).drop x.index.toNat).take x.ents.length ∧ x.lterm = endT ((h.ll x.term).take x.index.toNat) 0) ∧ x.commit ≤ (h.ll x.term).length ∧ Cp n h x.term ((h.ll x.term).take x.commit.toNat)
  rep : x.kind = 3 → x.yes = true → x.index ≤ h.ac x.frm x.term
/-- All of it. -/
structure Inv (g : Gr) (h : Gh) : Prop where
  gi : Gi g.ms.length h
  mi : ∀ (i : Nat) (p : Mb × Vt), g.ms[i]? = some p → Mi g.ms.length h p.1
  xi : ∀ x ∈ g.net, Xi g.ms.length h x
end Go.Proofs.YthjdbmfobmnnlaaGreat

/-
  Other members and messages, when more is known.
-/
namespace Go.Proofs.YthjdbmfobmnnlaaGreat
open Go.RowKit
set_option linter.unusedVariables false
theorem Gi.leadSelf {n : Nat} {h : Gh} (gi : Gi n h) {T : Int} (hT : h.ld T ≠ 0) : h.vt (h.ld T) T = h.ld T := by
  obtain ⟨q1, q2, q3⟩ := gi.quorum T hT
  have hne : h.qv T ≠ [] := fun e0 => by rw [e0] at q2; unfold majN at q2; simp at q2
  obtain ⟨j, hj⟩ := List.exists_mem_of_ne_nil _ hne
  have hv := (q3 j hj).2
  have := gi.self j T (by rw [hv]; exact hT)
  rwa [hv] at this
theorem By.clSame {n : Nat} {i : Int} {h h' : Gh} (b : By i h h') (gi : Gi n h) {T : Int} (hT : h.ld T ≠ 0) : h'.cl (h.ld T) T = h.cl (h.ld T) T := by
  by_cases e : h.ld T = i
  · have := gi.leadSelf hT
    rw [e] at this ⊢
    exact b.cli T this
  · exact b.cl _ T e
theorem By.notPre {n : Nat} {i : Int} {h h' : Gh} (b : By i h h') (gi : Gi n h) (le' : ∀ T, h'.ld T ≠ 0 → ∀ e ∈ h'.ll T, e.1 ≤ T) (own' : ∀ T, h'.ld T ≠ 0 → ∀ k e, (h'.cl (h'.ld T) T).length ≤ k → (h'.ll T)[k]? = some e → e.1 = T) {t T : Int} {k : Nat} (ht : h.ld t ≠ 0) (hk : k < (h.ll t).length) (hT : h.ld T ≠ 0) (hlt : t < T) (p : ¬ Pre h (h.ll T) t k) : ¬ Pre h' (h'.ll T) t k :=
  notPre_ext gi le' own' b.ext ht hk hT hlt (by rw [b.ext.ld T hT, b.clSame gi hT]; exact (gi.pre T hT).length_le) p
/-- What a member keeps, it keeps when more is known. -/
theorem By.keep {n : Nat} {i : Int} {h h' : Gh} (b : By i h h') (gi : Gi n h) (le' : ∀ T, h'.ld T ≠ 0 → ∀ e ∈ h'.ll T, e.1 ≤ T) (own' : ∀ T, h'.ld T ≠ 0 → ∀ k e, (h'.cl (h'.ld T) T).length ≤ k → (h'.ll T)[k]? = some e → e.1 = T) {X : List En} {t U : Int} {k : Nat} (ht : h.ld t ≠ 0) (hk : k < (h.ll t).length) (p : Pre h X t k ∨ ∃ T', t < T' ∧ T' ≤ U ∧ h.ld T' ≠ 0 ∧ ¬ Pre h (h.ll T') t k) : Pre h' X t k ∨ ∃ T', t < T' ∧ T' ≤ U ∧ h'.ld T' ≠ 0 ∧ ¬ Pre h' (h'.ll T') t k := by
  rcases p with p | ⟨T', p1, p2, p3, p4⟩
  · exact .inl (p.ext b.ext ht)
  · exact .inr ⟨T', p1, p2, by rw [b.ext.ld T' p3]; exact p3, b.notPre gi le' own' ht hk p3 p1 p4⟩
/-- Another member's part stays. -/
theorem By.vnOf {i : Int} {h h' : Gh} (b : By i h h') {d : Int} (hne : d ≠ i) (T : Int) : h'.vt i T ≠ d ∨ h.vt i T = d ∨ h.vt d T = d := by
  by_cases q : h'.vt i T = d
  · right
    rcases b.vn T with e | e | e
    · exact .inl (by rw [← e]; exact q)
    · exact (hne (by rw [← q]; exact e)).elim
    · exact .inr (by rw [q] at e; exact e)
  · exact .inl q
theorem Mi.other {n : Nat} {i : Int} {h h' : Gh} {m : Mb} (o : Mi n h m) (b : By i h h') (gi : Gi n h) (gi' : Gi n h') (hne : m.id ≠ i) (h1 : 1 ≤ m.id) : Mi n h' m := by
  have hfv : ∀ T j, m.term < T → h'.vt j T ≠ m.id := fun T j hT => by
    by_cases q : j = i
    · subst q
      rcases b.vnOf hne T with e | e | e
      · exact e
      · exact (o.futv T _ hT e).elim
      · exact (o.futv T _ hT e).elim
    · rw [b.vt j T q]
      exact o.futv T j hT
  refine ⟨o.lm.ext b.ext, fun hr => ?_, by rw [b.vt _ _ hne]; exact o.vote, fun T hT => ?_, hfv, fun hr => ?_, fun t k hk => ?_, fun hr j h2 h3 => Int.le_trans (o.mat hr j h2 h3) (by have := b.ext.ac j m.term; omega), o.nxt, o.set, o.cp.ext gi b.ext⟩
  · obtain ⟨k1, k2, k3⟩ := o.led hr
    have k0 : h.ld m.term ≠ 0 := by rw [k1]; omega
    exact ⟨by rw [b.ext.ld _ k0]; exact k1, by rw [b.ll _ k0 (by rw [k1]; exact hne)]; exact k2, by rw [b.ac _ _ hne]; exact k3⟩
  · obtain ⟨k1, k2, k3⟩ := o.fut T hT
    refine ⟨by rw [b.vt _ _ hne]; exact k1, by rw [b.ac _ _ hne]; exact k2, ?_⟩
    rcases b.ld T with e | ⟨_, e⟩
    · rw [e]; exact k3
    · rw [e]; exact fun q => hne q.symm
  · obtain ⟨k1, k2, k3, k4⟩ := o.cand hr
    refine ⟨by rw [b.cl _ _ hne]; exact k1, ?_, k3, fun v hv => ?_⟩
    · rcases b.ld m.term with e | ⟨_, e⟩
      · rw [e]; exact k2
      · rw [e]; exact fun q => hne q.symm
    · have := k4 v hv
      rw [b.ext.vt v m.term (by rw [this.2]; omega)]
      exact this
  · rw [b.ac _ _ hne] at hk
    have ha := gi.acc m.id t (by omega)
    exact b.keep gi gi'.le gi'.own ha.1 (by omega) (o.keeps t k hk)
/-- A message's part stays. -/
theorem Xi.ext {n : Nat} {i : Int} {h h' : Gh} {x : Ms} (o : Xi n h x) (b : By i h h') (gi : Gi n h) (hf : 1 ≤ x.frm) (hd : 1 ≤ x.dst) : Xi n h' x := by
  refine ⟨fun hk => ?_, fun hk hy => ?_, fun hk => ?_, fun hk hy => Int.le_trans (o.rep hk hy) (by have := b.ext.ac x.frm x.term; omega)⟩
  · obtain ⟨k1, k2, k3⟩ := o.ask hk
    have e : h'.cl x.frm x.term = h.cl x.frm x.term := by
      by_cases q : x.frm = i
      · rw [q] at k1 ⊢
        exact b.cli _ k1
      · exact b.cl _ _ q
    rw [e]
    exact ⟨by rw [b.ext.vt _ _ (by rw [k1]; omega)]; exact k1, k2, k3⟩
  · have := o.say hk hy
    rw [b.ext.vt _ _ (by rw [this]; omega)]
    exact this
  · obtain ⟨k1, k2, k3, k4⟩ := o.add hk
    have k0 : h.ld x.term ≠ 0 := by rw [k1]; omega
    have hp := b.ext.ll x.term k0
    refine ⟨by rw [b.ext.ld _ k0]; exact k1, fun hi => ?_, by have := hp.length_le; omega, ?_⟩
    · obtain ⟨j1, j2, j3⟩ := k2 hi
      refine ⟨Nat.le_trans j1 hp.length_le, ?_, ?_⟩
      · have := congrArg (List.drop x.index.toNat) (pre_take hp j1)
        rw [List.drop_take, List.drop_take, show x.index.toNat + x.ents.length - x.index.toNat = x.ents.length by omega] at this
        rw [← this]
        exact j2
      · rw [← pre_take hp (by omega)]
        exact j3
    · rw [← pre_take hp (by omega)]
      exact k4.ext gi b.ext
end Go.Proofs.YthjdbmfobmnnlaaGreat

/-
  A term is seen, a vote is given, a member stands, a member leads.
-/
namespace Go.Proofs.YthjdbmfobmnnlaaGreat
open Go.RowKit
set_option linter.unusedVariables false
theorem Ext.trans {h h' h'' : Gh} (a : Ext h h') (b : Ext h' h'') : Ext h h'' := by
  have l : ∀ T, h.ld T ≠ 0 → h'.ld T ≠ 0 := fun T q => by rw [a.ld T q]; exact q
  have v : ∀ j T, h.vt j T ≠ 0 → h'.vt j T ≠ 0 := fun j T q => by rw [a.vt j T q]; exact q
  exact ⟨fun T q => by rw [b.ld T (l T q), a.ld T q], fun T q => (a.ll T q).trans (b.ll T (l T q)), fun j T q => by rw [b.vt j T (v j T q), a.vt j T q], fun j T q => by rw [b.vl j T (v j T q), a.vl j T q], fun j T => Nat.le_trans (a.ac j T) (b.ac j T), fun T q => by rw [b.qv T (l T q), a.qv T q]⟩
theorem By.trans {i : Int} (hi : i ≠ 0) {h h' h'' : Gh} (a : By i h h') (b : By i h' h'') : By i h h'' := by
  refine ⟨a.ext.trans b.ext, fun j T q => by rw [b.vt j T q, a.vt j T q], fun j T q => by rw [b.vl j T q, a.vl j T q], fun j T q => by rw [b.cl j T q, a.cl j T q], fun T q => ?_, fun j T q => by rw [b.ac j T q, a.ac j T q], fun T => ?_, fun T q r => ?_, fun T => ?_⟩
  · rw [b.cli T (by rw [a.ext.vt i T (by rw [q]; exact hi)]; exact q), a.cli T q]
  · rcases a.ld T with e | ⟨e1, e2⟩
    · rcases b.ld T with f | ⟨f1, f2⟩
      · exact .inl (by rw [f, e])
      · exact .inr ⟨by rw [← e]; exact f1, f2⟩
    · exact .inr ⟨e1, by rw [b.ext.ld T (by rw [e2]; exact hi)]; exact e2⟩
  · have e := a.ext.ld T q
    rw [b.ll T (by rw [e]; exact q) (by rw [e]; exact r), a.ll T q r]
  · rcases b.vn T with e | e | e
    · rw [e]; exact a.vn T
    · exact .inr (.inl e)
    · by_cases q : h''.vt i T = i
      · exact .inr (.inl q)
      · rw [a.vt _ T q] at e
        exact .inr (.inr e)
def up2 {α : Type} (f : Int → Int → α) (i T : Int) (v : α) : Int → Int → α := fun j U => if j = i ∧ U = T then v else f j U
theorem up2_at {α : Type} (f : Int → Int → α) (i T : Int) (v : α) : up2 f i T v i T = v := if_pos ⟨rfl, rfl⟩
theorem up2_ne {α : Type} (f : Int → Int → α) {i T j U : Int} (v : α) (h : ¬ (j = i ∧ U = T)) : up2 f i T v j U = f j U := if_neg h
def up1 {α : Type} (f : Int → α) (T : Int) (v : α) : Int → α := fun U => if U = T then v else f U
theorem up1_at {α : Type} (f : Int → α) (T : Int) (v : α) : up1 f T v T = v := if_pos rfl
theorem up1_ne {α : Type} (f : Int → α) {T U : Int} (v : α) (h : U ≠ T) : up1 f T v U = f U := if_neg h
/-- A term is seen. -/
theorem Mi.seen {n : Nat} {h : Gh} {m : Mb} (o : Mi n h m) (x : Ms) : Mi n h (m.seen x) := by
  unfold Mb.seen
  split
  · rename_i ht
    refine ⟨o.lm, fun hr => (by cases hr), (o.fut x.term ht).1, fun T hT => o.fut T (by have : x.term < T := hT; omega), fun T j hT => o.futv T j (by have : x.term < T := hT; omega), fun hr => (by cases hr), fun t k hk => ?_, fun hr => (by cases hr), fun hr => (by cases hr), o.set, o.cp.mono (by show m.term ≤ x.term; omega)⟩
    rcases o.keeps t k hk with p | ⟨T', p1, p2, p3⟩
    · exact .inl p
    · exact .inr ⟨T', p1, by show T' ≤ x.term; omega, p3⟩
  · exact o
/-- A member that begins anew. -/
theorem Mi.fresh {n : Nat} {h : Gh} {m : Mb} (o : Mi n h m) {m' : Mb} (e1 : m'.id = m.id) (e2 : m'.term = m.term) (e3 : m'.vote = m.vote) (e4 : m'.log = m.log) (e5 : m'.role = 0) (e6 : m'.settled = 0) : Mi n h m' := by
  refine ⟨by rw [e4]; exact o.lm, fun hr => (by rw [e5] at hr; cases hr), by rw [e1, e2, e3]; exact o.vote, fun T hT => by rw [e1]; rw [e2] at hT; exact o.fut T hT, fun T j hT => by rw [e1]; rw [e2] at hT; exact o.futv T j hT, fun hr => (by rw [e5] at hr; cases hr), fun t k hk => ?_, fun hr => (by rw [e5] at hr; cases hr), fun hr => (by rw [e5] at hr; cases hr), by rw [e6]; omega, by rw [e6]; exact .inl rfl⟩
  rw [e1] at hk
  rw [e2, e4]
  exact o.keeps t k hk
/-- A vote is given. -/
def Gh.gave (h : Gh) (i T f : Int) (L : List En) : Gh := { h with vt := up2 h.vt i T f, vl := up2 h.vl i T L }
theorem Gi.gave {n : Nat} {h : Gh} (gi : Gi n h) {m : Mb} (o : Mi n h m) (hr : rising m.log 0 = true) {f : Int} (hv : m.vote = 0) (hi : m.id ≠ 0) (hf0 : f ≠ 0) (hf : f ≠ m.id) (hs : h.vt f m.term = f) (hn : newerB ((h.cl f m.term).length : Int) (endT (h.cl f m.term) 0) (m.log.length : Int) (endT m.log 0) = true) :
    By m.id h (h.gave m.id m.term f m.log) ∧ Gi n (h.gave m.id m.term f m.log) := by
  have v0 : h.vt m.id m.term = 0 := by rw [o.vote]; exact hv
  have nv : ∀ j T, h.vt j T ≠ 0 → ¬ (j = m.id ∧ T = m.term) := fun j T q e => by rw [e.1, e.2] at q; exact q v0
  have vne : ∀ j T, h.vt j T ≠ 0 → (h.gave m.id m.term f m.log).vt j T = h.vt j T := fun j T q => up2_ne _ _ (nv j T q)
  have vlne : ∀ j T, h.vt j T ≠ 0 → (h.gave m.id m.term f m.log).vl j T = h.vl j T := fun j T q => up2_ne _ _ (nv j T q)
  constructor
  · refine ⟨⟨fun _ _ => rfl, fun _ _ => List.prefix_refl _, vne, vlne, fun _ _ => Nat.le_refl _, fun _ _ => rfl⟩, fun j T q => up2_ne _ _ fun e => q e.1, fun j T q => up2_ne _ _ fun e => q e.1, fun _ _ _ => rfl, fun _ _ => rfl, fun _ _ _ => rfl, fun _ => .inl rfl, fun _ _ _ => rfl, fun T => ?_⟩
    by_cases q : T = m.term
    · subst q
      right; right
      show h.vt (up2 h.vt m.id m.term f m.id m.term) m.term = up2 h.vt m.id m.term f m.id m.term
      rw [up2_at]
      exact hs
    · exact .inl (up2_ne _ _ fun e => q e.2)
  · refine ⟨gi.lm, gi.le, gi.pre, gi.own, gi.old, fun T hT => ?_, fun j T hj => ?_, fun j T hj => ?_, fun j T hj hq t k ht hk => ?_, gi.acc, fun j T hj => ?_⟩
    · obtain ⟨q1, q2, q3⟩ := gi.quorum T hT
      refine ⟨q1, q2, fun j hj => ⟨(q3 j hj).1, ?_⟩⟩
      have := (q3 j hj).2
      rw [vne j T (by rw [this]; exact hT)]
      exact this
    · by_cases q : j = m.id ∧ T = m.term
      · obtain ⟨rfl, rfl⟩ := q
        show newerB ((h.cl (up2 h.vt m.id m.term f m.id m.term) m.term).length : Int) (endT (h.cl (up2 h.vt m.id m.term f m.id m.term) m.term) 0) ((up2 h.vl m.id m.term m.log m.id m.term).length : Int) (endT (up2 h.vl m.id m.term m.log m.id m.term) 0) = true
        rw [up2_at, up2_at]
        exact hn
      · have e1 : (h.gave m.id m.term f m.log).vt j T = h.vt j T := up2_ne _ _ q
        have e2 : (h.gave m.id m.term f m.log).vl j T = h.vl j T := up2_ne _ _ q
        rw [e1] at hj ⊢
        rw [e2]
        exact gi.newer j T hj
    · by_cases q : j = m.id ∧ T = m.term
      · obtain ⟨rfl, rfl⟩ := q
        show Lm h (up2 h.vl m.id m.term m.log m.id m.term) ∧ rising (up2 h.vl m.id m.term m.log m.id m.term) 0 = true
        rw [up2_at]
        exact ⟨o.lm, hr⟩
      · have e1 : (h.gave m.id m.term f m.log).vt j T = h.vt j T := up2_ne _ _ q
        have e2 : (h.gave m.id m.term f m.log).vl j T = h.vl j T := up2_ne _ _ q
        rw [e1] at hj
        rw [e2]
        exact gi.vlm j T hj
    · by_cases q : j = m.id ∧ T = m.term
      · obtain ⟨rfl, rfl⟩ := q
        have hl : h.ld m.term = 0 := by
          rcases hq with hq | hq
          · exact hq
          · refine Classical.byContradiction fun hne => ?_
            have := ((gi.quorum m.term hne).2.2 m.id hq).2
            rw [v0] at this
            exact hne this.symm
        show Pre h (up2 h.vl m.id m.term m.log m.id m.term) t k ∨ _
        rw [up2_at]
        rcases o.keeps t k hk with p | ⟨T', p1, p2, p3, p4⟩
        · exact .inl p
        · refine .inr ⟨T', p1, ?_, p3, p4⟩
          have : T' ≠ m.term := fun e => p3 (by rw [e]; exact hl)
          omega
      · have e1 : (h.gave m.id m.term f m.log).vt j T = h.vt j T := up2_ne _ _ q
        have e2 : (h.gave m.id m.term f m.log).vl j T = h.vl j T := up2_ne _ _ q
        rw [e1] at hj
        rw [e2]
        exact gi.keeps j T hj hq t k ht hk
    · by_cases q : j = m.id ∧ T = m.term
      · obtain ⟨rfl, rfl⟩ := q
        have e1 : (h.gave m.id m.term f m.log).vt m.id m.term = f := up2_at _ _ _ _
        rw [e1, vne f _ (by rw [hs]; exact hf0)]
        exact hs
      · have e1 : (h.gave m.id m.term f m.log).vt j T = h.vt j T := up2_ne _ _ q
        rw [e1] at hj ⊢
        have := gi.self j T hj
        rw [vne _ T (by rw [this]; exact hj)]
        exact this
theorem Mi.gave {n : Nat} {h : Gh} {m : Mb} (o : Mi n h m) (gi : Gi n h) {f : Int} (hv : m.vote = 0) (hi : m.id ≠ 0) (hf : f ≠ m.id) (x : Ext h (h.gave m.id m.term f m.log)) : Mi n (h.gave m.id m.term f m.log) { m with vote := f } := by
  refine ⟨o.lm, o.led, up2_at _ _ _ _, fun T hT => ?_, fun T j hT => ?_, fun hr => ?_, o.keeps, o.mat, o.nxt, o.set, o.cp.ext gi x⟩
  · have hT : m.term < T := hT
    obtain ⟨h1, h2, h3⟩ := o.fut T hT
    exact ⟨by show up2 h.vt m.id m.term f m.id T = 0; rw [up2_ne _ _ (by omega)]; exact h1, h2, h3⟩
  · have hT : m.term < T := hT
    show up2 h.vt m.id m.term f j T ≠ m.id
    rw [up2_ne _ _ (by omega)]
    exact o.futv T j hT
  · obtain ⟨k1, k2, k3, k4⟩ := o.cand hr
    rw [hv] at k3
    exact (hi k3.symm).elim
/-- A member stands. -/
def Gh.stood (h : Gh) (i T : Int) (L : List En) : Gh := { h with vt := up2 h.vt i T i, vl := up2 h.vl i T L, cl := up2 h.cl i T L }
theorem stood_both {n : Nat} {h : Gh} (gi : Gi n h) {m : Mb} (o : Mi n h m) (hr : rising m.log 0 = true) (hi : m.id ≠ 0) (hin : 1 ≤ m.id ∧ m.id ≤ n) :
    By m.id h (h.stood m.id (m.term + 1) m.log) ∧ Gi n (h.stood m.id (m.term + 1) m.log) ∧ Mi n (h.stood m.id (m.term + 1) m.log) m.stand := by
  obtain ⟨v0, a0, l0⟩ := o.fut (m.term + 1) (by omega)
  have fv := fun j => o.futv (m.term + 1) j (by omega)
  generalize hT : m.term + 1 = T at *
  have nv : ∀ j U, h.vt j U ≠ 0 → ¬ (j = m.id ∧ U = T) := fun j U q e => by rw [e.1, e.2] at q; exact q v0
  have vne : ∀ j U, h.vt j U ≠ 0 → (h.stood m.id T m.log).vt j U = h.vt j U := fun j U q => up2_ne _ _ (nv j U q)
  have vlne : ∀ j U, h.vt j U ≠ 0 → (h.stood m.id T m.log).vl j U = h.vl j U := fun j U q => up2_ne _ _ (nv j U q)
  have clne : ∀ j U, h.vt j U ≠ 0 → (h.stood m.id T m.log).cl (h.vt j U) U = h.cl (h.vt j U) U := fun j U q => up2_ne _ _ fun e => fv j (by rw [← e.2]; exact e.1)
  have clld : ∀ U, (h.stood m.id T m.log).cl (h.ld U) U = h.cl (h.ld U) U := fun U => up2_ne _ _ fun e => l0 (by rw [← e.2]; exact e.1)
  have X : Ext h (h.stood m.id T m.log) := ⟨fun _ _ => rfl, fun _ _ => List.prefix_refl _, vne, vlne, fun _ _ => Nat.le_refl _, fun _ _ => rfl⟩
  refine ⟨⟨X, fun j U q => up2_ne _ _ fun e => q e.1, fun j U q => up2_ne _ _ fun e => q e.1, fun j U q => up2_ne _ _ fun e => q e.1, fun U q => up2_ne _ _ fun e => ?_, fun _ _ _ => rfl, fun _ => .inl rfl, fun _ _ _ => rfl, fun U => ?_⟩,
    ⟨gi.lm, gi.le, fun U hU => ?_, fun U hU => ?_, fun U hU => ?_, fun U hU => ?_, fun j U hj => ?_, fun j U hj => ?_, fun j U hj hq t k ht hk => ?_, gi.acc, fun j U hj => ?_⟩,
    ⟨o.lm, fun hr => (by cases hr), ?_, fun U hU => ?_, fun U j hU => ?_, fun _ => ⟨?_, ?_, rfl, fun v hv => ?_⟩, fun t k hk => ?_, fun hr => (by cases hr), fun hr => (by cases hr), o.set, (o.cp.mono (by show m.term ≤ m.term + 1; omega)).ext gi X⟩⟩
  · rw [e.2, v0] at q; exact hi q.symm
  · by_cases q : U = T
    · subst q; right; left; exact up2_at _ _ _ _
    · exact .inl (up2_ne _ _ fun e => q e.2)
  · show (h.stood m.id T m.log).cl (h.ld U) U <+: h.ll U
    rw [clld]; exact gi.pre U hU
  · intro k e hk he
    have hk : ((h.stood m.id T m.log).cl (h.ld U) U).length ≤ k := hk
    rw [clld] at hk
    exact gi.own U hU k e hk he
  · intro e he
    have he : e ∈ (h.stood m.id T m.log).cl (h.ld U) U := he
    rw [clld] at he
    exact gi.old U hU e he
  · obtain ⟨q1, q2, q3⟩ := gi.quorum U hU
    refine ⟨q1, q2, fun j hj => ⟨(q3 j hj).1, ?_⟩⟩
    have := (q3 j hj).2
    rw [vne j U (by rw [this]; exact hU)]
    exact this
  · by_cases q : j = m.id ∧ U = T
    · obtain ⟨rfl, rfl⟩ := q
      have e1 : (h.stood m.id U m.log).vt m.id U = m.id := up2_at _ _ _ _
      have e2 : (h.stood m.id U m.log).vl m.id U = m.log := up2_at _ _ _ _
      have e3 : (h.stood m.id U m.log).cl m.id U = m.log := up2_at _ _ _ _
      rw [e1, e2, e3]
      exact newerB_refl _ _
    · have e1 : (h.stood m.id T m.log).vt j U = h.vt j U := up2_ne _ _ q
      rw [e1] at hj ⊢
      rw [vlne j U hj, clne j U hj]
      exact gi.newer j U hj
  · by_cases q : j = m.id ∧ U = T
    · obtain ⟨rfl, rfl⟩ := q
      have e2 : (h.stood m.id U m.log).vl m.id U = m.log := up2_at _ _ _ _
      rw [e2]
      exact ⟨o.lm, hr⟩
    · have e1 : (h.stood m.id T m.log).vt j U = h.vt j U := up2_ne _ _ q
      rw [e1] at hj
      rw [vlne j U hj]
      exact gi.vlm j U hj
  · by_cases q : j = m.id ∧ U = T
    · obtain ⟨rfl, rfl⟩ := q
      have e2 : (h.stood m.id U m.log).vl m.id U = m.log := up2_at _ _ _ _
      rw [e2]
      rcases o.keeps t k hk with p | ⟨T', p1, p2, p3, p4⟩
      · exact .inl p
      · exact .inr ⟨T', p1, by omega, p3, p4⟩
    · have e1 : (h.stood m.id T m.log).vt j U = h.vt j U := up2_ne _ _ q
      rw [e1] at hj
      rw [vlne j U hj]
      exact gi.keeps j U hj hq t k ht hk
  · by_cases q : j = m.id ∧ U = T
    · obtain ⟨rfl, rfl⟩ := q
      have e1 : (h.stood m.id U m.log).vt m.id U = m.id := up2_at _ _ _ _
      rw [e1, e1]
    · have e1 : (h.stood m.id T m.log).vt j U = h.vt j U := up2_ne _ _ q
      rw [e1] at hj ⊢
      have := gi.self j U hj
      rw [vne _ U (by rw [this]; exact hj)]
      exact this
  · show up2 h.vt m.id T m.id m.id (m.term + 1) = m.id
    rw [hT]
    exact up2_at _ _ _ _
  · have hU : m.term + 1 < U := hU
    obtain ⟨h1, h2, h3⟩ := o.fut U (by omega)
    exact ⟨by show up2 h.vt m.id T m.id m.id U = 0; rw [up2_ne _ _ (by omega)]; exact h1, h2, h3⟩
  · have hU : m.term + 1 < U := hU
    show up2 h.vt m.id T m.id j U ≠ m.id
    rw [up2_ne _ _ (by omega)]
    exact o.futv U j (by omega)
  · show up2 h.cl m.id T m.log m.id (m.term + 1) = m.log
    rw [hT]
    exact up2_at _ _ _ _
  · show h.ld (m.term + 1) ≠ m.id
    rw [hT]
    exact l0
  · have hv : v ∈ [m.id] := hv
    rw [List.mem_singleton] at hv
    subst hv
    refine ⟨hin, ?_⟩
    show up2 h.vt m.id T m.id m.id (m.term + 1) = m.id
    rw [hT]
    exact up2_at _ _ _ _
  · rcases o.keeps t k hk with p | ⟨T', p1, p2, p3, p4⟩
    · exact .inl p
    · exact .inr ⟨T', p1, by show T' ≤ m.term + 1; omega, p3, p4⟩
/-- A member leads, with its log as it is. -/
def Gh.leads (h : Gh) (i T : Int) (L : List En) (V : List Int) : Gh := { h with ld := up1 h.ld T i, ll := up1 h.ll T L, ac := up2 h.ac i T L.length, qv := up1 h.qv T V }
theorem Mb.clear_prAt (m : Mb) (j : Int) : (m.clear.prAt j).1 = 0 ∧ ((m.clear.prAt j).2 = 0 ∨ (m.clear.prAt j).2 = (lastF 0 0 m.log).1 + 1) := by
  unfold Mb.prAt Mb.clear
  simp only
  rw [List.getD_eq_getElem?_getD, List.getElem?_map]
  cases m.prog[(j - 1).toNat]? with
  | none => exact ⟨rfl, .inl rfl⟩
  | some p => exact ⟨rfl, .inr rfl⟩
theorem leads_both {n : Nat} {h : Gh} (gi : Gi n h) {m : Mb} (o : Mi n h m) (ok : MbOk m) (hr : m.role = 1) (hn : m.votes.Nodup) (hq : majN n ≤ m.votes.length) :
    By m.id h (h.leads m.id m.term m.log m.votes) ∧ Gi n (h.leads m.id m.term m.log m.votes) ∧ Mi n (h.leads m.id m.term m.log m.votes) m.clear := by
  have hi1 := ok.id1
  have hi : m.id ≠ 0 := by omega
  obtain ⟨c1, c2, c3, c4⟩ := o.cand hr
  have l0 : h.ld m.term = 0 := by
    refine Classical.byContradiction fun hne => ?_
    obtain ⟨q1, q2, q3⟩ := gi.quorum m.term hne
    obtain ⟨j, j1, j2⟩ := meet q1 hn q2 hq (fun j hj => (q3 j hj).1) (fun j hj => (c4 j hj).1)
    have e1 := (q3 j j1).2
    have e2 := (c4 j j2).2
    rw [e1] at e2
    exact c2 e2
  generalize hT : m.term = T at *
  generalize hL : m.log = L at *
  generalize hV : m.votes = V at *
  generalize hI : m.id = i at *
  have ldT : ∀ U, h.ld U ≠ 0 → U ≠ T := fun U q e => by rw [e] at q; exact q l0
  have ldne : ∀ U, U ≠ T → (h.leads i T L V).ld U = h.ld U := fun U q => up1_ne _ _ q
  have llne : ∀ U, U ≠ T → (h.leads i T L V).ll U = h.ll U := fun U q => up1_ne _ _ q
  have ldat : (h.leads i T L V).ld T = i := up1_at _ _ _
  have llat : (h.leads i T L V).ll T = L := up1_at _ _ _
  have qvat : (h.leads i T L V).qv T = V := up1_at _ _ _
  have qvne : ∀ U, U ≠ T → (h.leads i T L V).qv U = h.qv U := fun U q => up1_ne _ _ q
  have acat : (h.leads i T L V).ac i T = L.length := up2_at _ _ _ _
  have acne : ∀ j U, ¬ (j = i ∧ U = T) → (h.leads i T L V).ac j U = h.ac j U := fun j U q => up2_ne _ _ q
  have ac0 : ∀ j, h.ac j T = 0 := fun j => by
    by_cases q : h.ac j T = 0
    · exact q
    · exact ((gi.acc j T (by omega)).1 l0).elim
  have preq : ∀ X t k, t ≠ T → (Pre (h.leads i T L V) X t k ↔ Pre h X t k) := fun X t k q => by
    unfold Pre
    rw [llne t q]
  have X : Ext h (h.leads i T L V) := ⟨fun U q => ldne U (ldT U q), fun U q => by rw [llne U (ldT U q)]; exact List.prefix_refl _, fun _ _ _ => rfl, fun _ _ _ => rfl, fun j U => by
    by_cases q : j = i ∧ U = T
    · obtain ⟨rfl, rfl⟩ := q
      rw [ac0]; exact Nat.zero_le _
    · rw [acne j U q]; exact Nat.le_refl _, fun U q => qvne U (ldT U q)⟩
  have lm : Lm h L := by have := o.lm; rwa [hL] at this
  have last : ∀ e ∈ L, e.1 ≤ T := fun e he => by
    rw [← hL] at he
    have h1 := (rising_le ok.rise e he).2
    have h2 := ok.last
    omega
  have lastF' : lastF 0 0 L = ((L.length : Int), endT L 0) := by rw [← hL]; exact ok.lastF
  refine ⟨⟨X, fun _ _ _ => rfl, fun _ _ _ => rfl, fun _ _ _ => rfl, fun _ _ => rfl, fun j U q => acne j U fun e => q e.1, fun U => ?_, fun U q r => llne U (ldT U q), fun _ => .inl rfl⟩,
    ⟨fun U hU => ?_, fun U hU => ?_, fun U hU => ?_, fun U hU => ?_, fun U hU => ?_, fun U hU => ?_, gi.newer, fun j U hj => ⟨(gi.vlm j U hj).1.ext X, (gi.vlm j U hj).2⟩, fun j U hj hq t k ht hk => ?_, fun j t hk => ?_, gi.self⟩,
    ⟨?_, fun _ => ?_, ?_, fun U hU => ?_, fun U j hU => ?_, fun hr => (by cases hr), fun t k hk => ?_, fun _ j j1 j2 => ?_, fun _ j j1 j2 => ?_, ?_, ?_⟩⟩
  · by_cases q : U = T
    · subst q; exact .inr ⟨l0, ldat⟩
    · exact .inl (ldne U q)
  · by_cases q : U = T
    · subst q; rw [llat]; exact lm.ext X
    · rw [llne U q]
      rw [ldne U q] at hU
      exact (gi.lm U hU).ext X
  · by_cases q : U = T
    · subst q; rw [llat]; exact last
    · rw [llne U q]
      rw [ldne U q] at hU
      exact gi.le U hU
  · by_cases q : U = T
    · subst q; rw [llat, ldat]
      show h.cl i U <+: L
      rw [c1]; exact List.prefix_refl _
    · rw [ldne U q] at hU
      rw [llne U q, ldne U q]
      exact gi.pre U hU
  · by_cases q : U = T
    · subst q; rw [llat, ldat]
      intro k e hk he
      have hk : (h.cl i U).length ≤ k := hk
      rw [c1] at hk
      rw [List.getElem?_eq_none hk] at he
      cases he
    · rw [ldne U q] at hU
      rw [llne U q, ldne U q]
      exact gi.own U hU
  · by_cases q : U = T
    · subst q; rw [ldat]
      intro e he
      have he : e ∈ h.cl i U := he
      rw [c1] at he
      obtain ⟨k, hk⟩ := List.mem_iff_getElem?.1 he
      have h1 := (lm k e hk).1
      have h2 := ldT e.1 h1
      have h3 := last e he
      omega
    · rw [ldne U q] at hU
      rw [ldne U q]
      exact gi.old U hU
  · by_cases q : U = T
    · subst q; rw [ldat, qvat]
      exact ⟨hn, hq, fun j hj => c4 j hj⟩
    · rw [ldne U q] at hU
      rw [ldne U q, qvne U q]
      exact gi.quorum U hU
  · have hj : h.vt j U ≠ 0 := hj
    have hq' : h.ld U = 0 ∨ j ∈ h.qv U := by
      by_cases q : U = T
      · subst q; exact .inl l0
      · rwa [ldne U q, qvne U q] at hq
    have hne : ¬ (j = i ∧ t = T) := fun e => by
      obtain ⟨rfl, rfl⟩ := e
      have := (o.fut U (by omega)).1
      rw [hI] at this
      exact hj this
    rw [acne j t hne] at hk
    have htT := ldT t (gi.acc j t (by omega)).1
    show Pre (h.leads i T L V) (h.vl j U) t k ∨ _
    rcases gi.keeps j U hj hq' t k ht hk with p | ⟨T', p1, p2, p3, p4⟩
    · exact .inl ((preq _ t k htT).2 p)
    · refine .inr ⟨T', p1, p2, by rw [ldne T' (ldT T' p3)]; exact p3, ?_⟩
      rw [llne T' (ldT T' p3), preq _ t k htT]
      exact p4
  · by_cases q : j = i ∧ t = T
    · obtain ⟨rfl, rfl⟩ := q
      rw [ldat, llat, acat]
      exact ⟨hi, Nat.le_refl _⟩
    · rw [acne j t q] at hk ⊢
      obtain ⟨h1, h2⟩ := gi.acc j t hk
      rw [ldne t (ldT t h1), llne t (ldT t h1)]
      exact ⟨h1, h2⟩
  · show Lm _ m.log
    rw [hL]; exact lm.ext X
  · show (h.leads i T L V).ld m.term = m.id ∧ (h.leads i T L V).ll m.term = m.log ∧ m.log.length ≤ (h.leads i T L V).ac m.id m.term
    rw [hT, hI, hL, ldat, llat, acat]
    exact ⟨rfl, rfl, Nat.le_refl _⟩
  · exact o.vote
  · have hU : m.term < U := hU
    obtain ⟨h1, h2, h3⟩ := o.fut U hU
    show h.vt m.id U = 0 ∧ (h.leads i T L V).ac m.id U = 0 ∧ (h.leads i T L V).ld U ≠ m.id
    rw [acne _ _ (by omega), ldne U (by omega)]
    exact ⟨h1, h2, h3⟩
  · exact o.futv U j hU
  · have hk : k < (h.leads i T L V).ac m.id t := hk
    show Pre _ m.log t k ∨ ∃ T', t < T' ∧ T' ≤ m.term ∧ _
    rw [hI] at hk
    by_cases q : t = T
    · subst q
      rw [acat] at hk
      left
      unfold Pre
      rw [llat, hL]
      exact ⟨hk, rfl⟩
    · rw [acne _ _ (by omega)] at hk
      rw [← hI] at hk
      rcases o.keeps t k hk with p | ⟨T', p1, p2, p3, p4⟩
      · exact .inl ((preq _ t k q).2 p)
      · refine .inr ⟨T', p1, p2, by rw [ldne T' (ldT T' p3)]; exact p3, ?_⟩
        rw [llne T' (ldT T' p3), preq _ t k q]
        exact p4
  · rw [(m.clear_prAt j).1]
    exact Int.natCast_nonneg _
  · show (m.clear.prAt j).2 ≤ (m.log.length : Int) + 1
    rcases (m.clear_prAt j).2 with e | e
    · omega
    · rw [e, hL, lastF']; exact Int.le_refl _
  · exact o.set
  · exact o.cp.ext gi X
end Go.Proofs.YthjdbmfobmnnlaaGreat

/-
  A leader's log grows; what is known of each is noted; what a majority has is settled.
-/
namespace Go.Proofs.YthjdbmfobmnnlaaGreat
open Go.RowKit
set_option linter.unusedVariables false
/-- A leader's log grows. -/
def Gh.grew (h : Gh) (i T : Int) (L : List En) : Gh := { h with ll := up1 h.ll T L, ac := up2 h.ac i T L.length }
def Mb.wlog (m : Mb) (L : List En) : Mb := { m with log := L }
theorem grew_both {n : Nat} {h : Gh} (gi : Gi n h) {m : Mb} (o : Mi n h m) (ok : MbOk m) (hr : m.role = 2) (c : Cm) :
    By m.id h (h.grew m.id m.term (m.log ++ [(m.term, c)])) ∧ Gi n (h.grew m.id m.term (m.log ++ [(m.term, c)])) ∧ Mi n (h.grew m.id m.term (m.log ++ [(m.term, c)])) (m.wlog (m.log ++ [(m.term, c)])) := by
  have hi1 := ok.id1
  have hi : m.id ≠ 0 := by omega
  obtain ⟨k1, k2, k3⟩ := o.led hr
  have l0 : h.ld m.term ≠ 0 := by rw [k1]; exact hi
  generalize hL : m.log ++ [(m.term, c)] = L
  have len : L.length = m.log.length + 1 := by rw [← hL]; simp
  have pfx : h.ll m.term <+: L := by rw [k2, ← hL]; exact List.prefix_append _ _
  have newAt : ∀ k e, m.log.length ≤ k → L[k]? = some e → k = m.log.length ∧ e.1 = m.term := fun k e h1 h2 => by
    have h3 := (List.getElem?_eq_some_iff.1 h2).1
    have h4 : k = m.log.length := by omega
    subst h4
    rw [← hL, List.getElem?_append_right (Nat.le_refl _)] at h2
    simp at h2
    rw [← h2]
    exact ⟨rfl, rfl⟩
  have oldAt : ∀ k, k < m.log.length → L[k]? = m.log[k]? := fun k h1 => by rw [← hL, List.getElem?_append_left h1]
  generalize hT : m.term = T at *
  generalize hI : m.id = i at *
  have llne : ∀ U, U ≠ T → (h.grew i T L).ll U = h.ll U := fun U q => up1_ne _ _ q
  have llat : (h.grew i T L).ll T = L := up1_at _ _ _
  have acat : (h.grew i T L).ac i T = L.length := up2_at _ _ _ _
  have acne : ∀ j U, ¬ (j = i ∧ U = T) → (h.grew i T L).ac j U = h.ac j U := fun j U q => up2_ne _ _ q
  have aci := (fun q : 0 < h.ac i T => (gi.acc i T q).2)
  rw [k2] at aci
  have X : Ext h (h.grew i T L) := ⟨fun _ _ => rfl, fun U q => by
    by_cases e : U = T
    · subst e; rw [llat]; exact pfx
    · rw [llne U e]; exact List.prefix_refl _, fun _ _ _ => rfl, fun _ _ _ => rfl, fun j U => by
    by_cases q : j = i ∧ U = T
    · obtain ⟨rfl, rfl⟩ := q
      rw [acat, len]; omega
    · rw [acne j U q]; exact Nat.le_refl _, fun _ _ => rfl⟩
  have b : By i h (h.grew i T L) := ⟨X, fun _ _ _ => rfl, fun _ _ _ => rfl, fun _ _ _ => rfl, fun _ _ => rfl, fun j U q => acne j U fun e => q e.1, fun _ => .inl rfl, fun U q r => llne U fun e => r (by rw [e]; exact k1), fun _ => .inl rfl⟩
  have le' : ∀ U, (h.grew i T L).ld U ≠ 0 → ∀ e ∈ (h.grew i T L).ll U, e.1 ≤ U := fun U hU e he => by
    by_cases q : U = T
    · subst q
      rw [llat] at he
      obtain ⟨k, hk⟩ := List.mem_iff_getElem?.1 he
      by_cases hlt : k < m.log.length
      · rw [oldAt k hlt, ← k2] at hk
        exact gi.le U hU e (List.mem_of_getElem? hk)
      · have := (newAt k e (by omega) hk).2
        omega
    · rw [llne U q] at he
      exact gi.le U hU e he
  have clen : (h.cl i T).length ≤ m.log.length := by
    have := (gi.pre T l0).length_le
    rw [k1, k2] at this
    exact this
  have own' : ∀ U, (h.grew i T L).ld U ≠ 0 → ∀ k e, ((h.grew i T L).cl ((h.grew i T L).ld U) U).length ≤ k → ((h.grew i T L).ll U)[k]? = some e → e.1 = U := fun U hU k e hk he => by
    have hU : h.ld U ≠ 0 := hU
    have hk : (h.cl (h.ld U) U).length ≤ k := hk
    by_cases q : U = T
    · subst q
      rw [llat] at he
      by_cases hlt : k < m.log.length
      · rw [oldAt k hlt, ← k2] at he
        exact gi.own U hU k e hk he
      · exact (newAt k e (by omega) he).2
    · rw [llne U q] at he
      exact gi.own U hU k e hk he
  have lmL : Lm (h.grew i T L) L := fun k e hk => by
    by_cases hlt : k < m.log.length
    · rw [oldAt k hlt] at hk
      have := (o.lm.ext X) k e hk
      exact ⟨this.1, this.2.of_take (n := k + 1) (Nat.lt_succ_self k) (by rw [← hL, List.take_append_of_le_length (by omega)])⟩
    · obtain ⟨_, q⟩ := newAt k e (by omega) hk
      rw [q]
      refine ⟨l0, ?_, by rw [llat]⟩
      rw [llat]
      exact (List.getElem?_eq_some_iff.1 hk).1
  refine ⟨b, ⟨fun U hU => ?_, le', fun U hU => ?_, own', gi.old, gi.quorum, gi.newer, fun j U hj => ⟨(gi.vlm j U hj).1.ext X, (gi.vlm j U hj).2⟩, fun j U hj hq t k ht hk => ?_, fun j t hk => ?_, gi.self⟩,
    ⟨lmL, fun _ => ?_, ?_, fun U hU => ?_, fun U j hU => ?_, fun h1 => ?_, fun t k hk => ?_, fun _ j j1 j2 => ?_, fun _ j j1 j2 => ?_, ?_, ?_⟩⟩
  · by_cases q : U = T
    · subst q; rw [llat]; exact lmL
    · rw [llne U q]
      exact (gi.lm U hU).ext X
  · by_cases q : U = T
    · subst q; rw [llat]
      exact (gi.pre U hU).trans pfx
    · rw [llne U q]
      exact gi.pre U hU
  · have hj : h.vt j U ≠ 0 := hj
    have hne : ¬ (j = i ∧ t = T) := fun e => by
      obtain ⟨rfl, rfl⟩ := e
      have := (o.fut U (by omega)).1
      rw [hI] at this
      exact hj this
    rw [acne j t hne] at hk
    have ha := gi.acc j t (by omega)
    have hlt : k < (h.ll t).length := by omega
    show Pre (h.grew i T L) (h.vl j U) t k ∨ _
    rcases gi.keeps j U hj hq t k ht hk with p | ⟨T', p1, p2, p3, p4⟩
    · exact .inl (p.ext X ha.1)
    · exact .inr ⟨T', p1, p2, p3, b.notPre gi le' own' ha.1 hlt p3 p1 p4⟩
  · by_cases q : j = i ∧ t = T
    · obtain ⟨rfl, rfl⟩ := q
      rw [llat, acat]
      exact ⟨l0, Nat.le_refl _⟩
    · rw [acne j t q] at hk ⊢
      obtain ⟨h1, h2⟩ := gi.acc j t hk
      exact ⟨h1, Nat.le_trans h2 (X.ll t h1).length_le⟩
  · show h.ld m.term = m.id ∧ (h.grew i T L).ll m.term = L ∧ L.length ≤ (h.grew i T L).ac m.id m.term
    rw [hT, hI, llat, acat]
    exact ⟨k1, rfl, Nat.le_refl _⟩
  · exact o.vote
  · have hU : m.term < U := hU
    obtain ⟨h1, h2, h3⟩ := o.fut U hU
    show h.vt m.id U = 0 ∧ (h.grew i T L).ac m.id U = 0 ∧ h.ld U ≠ m.id
    rw [acne _ _ (by omega)]
    exact ⟨h1, h2, h3⟩
  · exact o.futv U j hU
  · have h1 : m.role = 1 := h1
    omega
  · have hk : k < (h.grew i T L).ac m.id t := hk
    show Pre _ L t k ∨ ∃ T', t < T' ∧ T' ≤ m.term ∧ _
    rw [hI] at hk
    by_cases q : t = T
    · subst q
      rw [acat] at hk
      left
      unfold Pre
      rw [llat]
      exact ⟨hk, rfl⟩
    · rw [acne _ _ (by omega)] at hk
      have ha := gi.acc i t (by omega)
      rw [← hI] at hk
      rcases o.keeps t k hk with p | ⟨T', p1, p2, p3, p4⟩
      · left
        have p' := p.ext X ha.1
        exact p'.of_take (n := m.log.length) p.len (by rw [← hL, List.take_append_of_le_length (Nat.le_refl _), List.take_length])
      · refine .inr ⟨T', p1, p2, p3, b.notPre gi le' own' ha.1 ?_ p3 p1 p4⟩
        rw [hI] at hk
        omega
  · show (m.prAt j).1 ≤ (((h.grew i T L).ac j m.term : Nat) : Int)
    have h1 := o.mat hr j j1 j2
    have h2 := X.ac j m.term
    omega
  · have h1 := o.nxt hr j j1 j2
    show (m.prAt j).2 ≤ (L.length : Int) + 1
    omega
  · have := o.set
    show m.settled ≤ (L.length : Int)
    omega
  · show Cp n _ m.term (L.take m.settled.toNat)
    have := o.set
    have e : L.take m.settled.toNat = m.log.take m.settled.toNat := by rw [← hL, List.take_append_of_le_length (by omega)]
    rw [e]
    exact o.cp.ext gi X
theorem Mb.setPr_prAt (m : Mb) {j k : Int} (hj : 1 ≤ j) (hk : 1 ≤ k) (p : Int × Int) : ((m.setPr k p).prAt j = p ∧ j = k) ∨ (m.setPr k p).prAt j = m.prAt j := by
  unfold Mb.prAt Mb.setPr
  simp only
  rw [List.getD_eq_getElem?_getD, List.getD_eq_getElem?_getD, List.getElem?_set]
  by_cases q : (k - 1).toNat = (j - 1).toNat
  · rw [if_pos q]
    by_cases r : (k - 1).toNat < m.prog.length
    · rw [if_pos r]; left; exact ⟨rfl, by omega⟩
    · rw [if_neg r, List.getElem?_eq_none (by omega)]; right; rfl
  · rw [if_neg q]; right; rfl
/-- What is known of one is noted. -/
theorem Mi.setPr {n : Nat} {h : Gh} {m : Mb} (o : Mi n h m) {k : Int} {p : Int × Int} (hk : 1 ≤ k) (h1 : m.role = 2 → p.1 ≤ h.ac k m.term) (h2 : m.role = 2 → p.2 ≤ (m.log.length : Int) + 1) : Mi n h (m.setPr k p) := by
  refine ⟨o.lm, o.led, o.vote, o.fut, o.futv, o.cand, o.keeps, fun hr j j1 j2 => ?_, fun hr j j1 j2 => ?_, o.set, o.cp⟩
  · show ((m.setPr k p).prAt j).1 ≤ (((h.ac j m.term : Nat)) : Int)
    rcases m.setPr_prAt j1 hk p with ⟨e, f⟩ | e
    · rw [e, f]; exact h1 hr
    · rw [e]; exact o.mat hr j j1 j2
  · show ((m.setPr k p).prAt j).2 ≤ (m.log.length : Int) + 1
    rcases m.setPr_prAt j1 hk p with ⟨e, f⟩ | e
    · rw [e]; exact h2 hr
    · rw [e]; exact o.nxt hr j j1 j2
theorem Mi.mark {n : Nat} {h : Gh} {m : Mb} (o : Mi n h m) (ok : MbOk m) (hn : m.prog.length = n) : Mi n h m.mark := by
  have h1 := ok.id1
  have h2 := ok.idn
  refine o.setPr (k := m.id) h1 (fun hr => ?_) (fun hr => o.nxt hr m.id h1 (by omega))
  rw [ok.lastF]
  have := (o.led hr).2.2
  show (m.log.length : Int) ≤ _
  omega
theorem commitGo_hit (T : Int) (l : List En) (term settled : Int) (h0 : 0 ≤ settled) (k : Nat) : commitGo 0 T l term settled k = settled ∨ ∃ j : Nat, 1 ≤ j ∧ j ≤ k ∧ endT (l.take j) T = term ∧ commitGo 0 T l term settled k = j := by
  induction k with
  | zero => left; unfold commitGo; rw [if_neg (by omega)]
  | succ k ih =>
    unfold commitGo
    split
    · split
      · rename_i h1 h2
        exact .inr ⟨k + 1, by omega, Nat.le_refl _, h2, by omega⟩
      · rcases ih with e | ⟨j, e1, e2, e3⟩
        · exact .inl e
        · exact .inr ⟨j, e1, by omega, e3⟩
    · exact .inl rfl
theorem commitF_hit {es : List En} (hm : mayL 0 0 es = true) (ms : List Int) (term settled : Int) (h0 : 0 ≤ settled) : commitF 0 0 es ms term settled = settled ∨ ∃ j : Nat, 1 ≤ j ∧ j ≤ es.length ∧ (j : Int) ≤ mostL ms ∧ endT (es.take j) 0 = term ∧ commitF 0 0 es ms term settled = j := by
  unfold commitF
  rw [fairL_yes hm]
  simp only
  unfold commitAt
  split
  · exact .inl rfl
  · rcases commitGo_hit 0 es term settled h0 (min (0 + (es.length : Int)) (mostL ms) - 0).toNat with e | ⟨j, e1, e2, e3⟩
    · exact .inl e
    · exact .inr ⟨j, e1, by omega, by omega, e3⟩
/-- So many of the members are those of a list. -/
theorem count_members (l : List (Int × Int)) (j : Int) : ∃ A : List Int, A.Nodup ∧ A.length = heldN (l.map (·.1)) j ∧ ∀ a ∈ A, (1 ≤ a ∧ a ≤ (l.length : Int)) ∧ j ≤ (l.getD (a - 1).toNat (0, 0)).1 := by
  have e : l = (List.range l.length).map fun i => l.getD i (0, 0) := by
    apply List.ext_getElem
    · simp
    · intro i h1 h2
      simp only [List.getElem_map, List.getElem_range]
      rw [List.getD_eq_getElem?_getD, List.getElem?_eq_getElem h1]
      rfl
  refine ⟨((List.range l.length).filter fun i => decide (j ≤ (l.getD i (0, 0)).1)).map fun (i : Nat) => (i : Int) + 1, ?_, ?_, ?_⟩
  · refine List.pairwise_map.2 (List.Pairwise.imp (fun {a b} (hab : a ≠ b) => ?_) (List.Pairwise.filter _ List.nodup_range))
    omega
  · rw [List.length_map, ← List.countP_eq_length_filter]
    unfold heldN
    rw [List.countP_map]
    conv => rhs; rw [e]
    rw [List.countP_map]
    rfl
  · intro a ha
    obtain ⟨i, hi, rfl⟩ := List.mem_map.1 ha
    rw [List.mem_filter, List.mem_range, decide_eq_true_eq] at hi
    refine ⟨by omega, ?_⟩
    rw [show ((i : Int) + 1 - 1).toNat = i by omega]
    exact hi.2
theorem Mi.settle {n : Nat} {h : Gh} {m : Mb} (o : Mi n h m) (ok : MbOk m) (hn : m.prog.length = n) (hr : m.role = 2) : Mi n h m.settle := by
  obtain ⟨k1, k2, k3⟩ := o.led hr
  have h0 := ok.set0
  rcases commitF_hit ok.log (m.prog.map (·.1)) m.term m.settled h0 with e | ⟨j, e1, e2, e3, e4, e5⟩
  · have : m.settle = m := by unfold Mb.settle; rw [e]
    rw [this]; exact o
  · refine ⟨o.lm, o.led, o.vote, o.fut, o.futv, o.cand, o.keeps, o.mat, o.nxt, ?_, ?_⟩
    · have e6 : m.settle.settled = (j : Int) := e5
      rw [e6]
      show (j : Int) ≤ (m.log.length : Int)
      omega
    · have e6 : m.settle.settled = (j : Int) := e5
      rw [e6, Int.toNat_natCast]
      have e7 : m.settle.log = m.log := rfl
      have e8 : m.settle.term = m.term := rfl
      rw [e7, e8]
      right
      have hne : (m.prog.map (·.1)).length ≠ 0 := by rw [List.length_map]; have := ok.n1; omega
      have hs := (most_spec hne).2.1
      have ha := heldN_anti (ns := m.prog.map (·.1)) e3
      rw [List.length_map, hn] at hs
      obtain ⟨A, a1, a2, a3⟩ := count_members m.prog j
      refine ⟨m.term, j - 1, Int.le_refl _, ⟨⟨A, a1, by omega, fun a hA => ⟨by rw [← hn]; exact (a3 a hA).1, ?_⟩⟩, ?_⟩, ?_, ?_⟩
      · have h1 := (a3 a hA).2
        have h2 := o.mat hr a (a3 a hA).1.1 (by rw [← hn]; exact (a3 a hA).1.2)
        have h1 : (j : Int) ≤ (m.prAt a).1 := h1
        omega
      · rw [k2]
        have hx : m.log.take j ≠ [] := fun q => by
          have := congrArg List.length q
          rw [List.length_take] at this
          simp only [List.length_nil] at this
          omega
        obtain ⟨e, he, het⟩ := endT_last (f := 0) hx
        have hl : (m.log.take j).length = j := by rw [List.length_take]; omega
        rw [hl, List.getElem?_take, if_pos (by omega)] at he
        exact ⟨e, he, by omega⟩
      · rw [List.length_take]; omega
      · rw [k2]
        have hl : (m.log.take j).length = j := by rw [List.length_take]; omega
        rw [hl]
end Go.Proofs.YthjdbmfobmnnlaaGreat

/-
  What becomes of a member, and what it says, with what is known then.
-/
namespace Go.Proofs.YthjdbmfobmnnlaaGreat
open Go.RowKit
set_option linter.unusedVariables false
theorem Mi.follow {n : Nat} {h : Gh} {m : Mb} (o : Mi n h m) : Mi n h m.follow :=
  ⟨o.lm, fun hr => (by cases hr), o.vote, o.fut, o.futv, fun hr => (by cases hr), o.keeps, fun hr => (by cases hr), fun hr => (by cases hr), o.set, o.cp⟩
theorem took_ev {n : Nat} {h : Gh} (gi : Gi n h) {m : Mb} (o : Mi n h m) (ok : InGr n m) (hr : m.role = 2) {c : Cm} (hc : EnWf (m.term, c)) : ∃ h', By m.id h h' ∧ Gi n h' ∧ Mi n h' (m.took c) := by
  have ht : 1 ≤ m.term := ok.mb.live (by omega)
  have okp := ok.put ht hc
  have hrp : (m.put c).role = 2 := by rw [(put_facts m c).2.1]; exact hr
  have key : ∀ h', Mi n h' (m.put c) → Mi n h' (m.took c) := fun h' q =>
    (q.mark okp.mb okp.many).settle okp.mark.mb okp.mark.many hrp
  by_cases hl : 64 ≤ m.log.length
  · refine ⟨h, .refl _ _, gi, key h ?_⟩
    have e : m.put c = m := by unfold Mb.put; rw [if_pos hl]
    rw [e]; exact o
  · obtain ⟨b, g', o'⟩ := grew_both gi o ok.mb hr c
    refine ⟨_, b, g', key _ ?_⟩
    have e : m.put c = m.wlog (m.log ++ [(m.term, c)]) := by unfold Mb.put; rw [if_neg hl]; rfl
    rw [e]; exact o'
theorem InGr.clear {n : Nat} {m : Mb} (ok : InGr n m) (ht : 1 ≤ m.term) : InGr n m.clear := ⟨ok.mb.clear ht, by show (m.prog.map _).length = n; rw [List.length_map]; exact ok.many, ok.wf⟩
theorem lead_ev {n : Nat} {h : Gh} (gi : Gi n h) {m : Mb} (o : Mi n h m) (ok : InGr n m) (hr : m.role = 1) (hq : majN n ≤ m.votes.length) : ∃ h', By m.id h h' ∧ Gi n h' ∧ Mi n h' m.lead := by
  have ht : 1 ≤ m.term := ok.mb.live (by omega)
  obtain ⟨b, g', o'⟩ := leads_both gi o ok.mb hr ok.mb.nodup hq
  have okc := ok.clear ht
  obtain ⟨h', b', g'', o''⟩ := took_ev g' o' okc rfl (c := (0, 0, 0, 0, 0, 0)) okc.zero
  exact ⟨h', b.trans (by have := ok.mb.id1; omega) b', g'', o''⟩
theorem lead_role (m : Mb) : m.lead.role = 2 := (put_facts m.clear (0, 0, 0, 0, 0, 0)).2.1
theorem took_role (m : Mb) (c : Cm) : (m.took c).role = m.role := (put_facts m c).2.1
theorem take_take_len {α : Type} (l : List α) (n : Nat) : l.take n = l.take (l.take n).length := by
  rw [List.length_take]
  rcases Nat.le_total n l.length with q | q
  · rw [Nat.min_eq_left q]
  · rw [Nat.min_eq_right q, List.take_length, List.take_of_length_le q]
/-- What a leader says that is to be added. -/
theorem Mi.addn {n : Nat} {h : Gh} {m : Mb} (o : Mi n h m) (ok : InGr n m) (hr : m.role = 2) {k : Int} (h1 : 1 ≤ k) (h2 : k ≤ n) : Xi n h (m.addn k) := by
  obtain ⟨k1, k2, k3⟩ := o.led hr
  have hn := o.nxt hr k h1 h2
  have hset := o.set
  refine ⟨fun q => absurd q (by show ¬ (2 : Int) = 0; decide), fun q => absurd q (by show ¬ (2 : Int) = 1; decide), fun _ => ⟨k1, fun hi => ?_, ?_, ?_⟩, fun q => absurd q (by show ¬ (2 : Int) = 3; decide)⟩
  · have hi : 0 ≤ (m.prAt k).2 - 1 := hi
    show ((m.prAt k).2 - 1).toNat + (fromF 0 0 m.log (m.prAt k).2 8).length ≤ (h.ll m.term).length ∧ fromF 0 0 m.log (m.prAt k).2 8 = ((h.ll m.term).drop ((m.prAt k).2 - 1).toNat).take (fromF 0 0 m.log (m.prAt k).2 8).length ∧ (termF 0 0 m.log ((m.prAt k).2 - 1)).1 = endT ((h.ll m.term).take ((m.prAt k).2 - 1).toNat) 0
    rw [k2]
    obtain ⟨j, hj⟩ : ∃ j : Nat, (m.prAt k).2 = (j : Int) + 1 := ⟨((m.prAt k).2 - 1).toNat, by omega⟩
    rw [hj] at hn ⊢
    have e1 : ((j : Int) + 1 - 1).toNat = j := by omega
    rw [e1]
    have hjl : j ≤ m.log.length := by omega
    have e2 : fromF 0 0 m.log ((j : Int) + 1) 8 = (m.log.drop j).take 8 := by
      unfold fromF
      rw [fairL_yes ok.mb.log]
      show fromL 0 m.log _ 8 = _
      unfold fromL
      by_cases hc : (j : Int) + 1 ≤ 0 ∨ 0 + (m.log.length : Int) < (j : Int) + 1 ∨ (8 : Int) ≤ 0
      · rw [if_pos hc, List.drop_of_length_le (by omega), List.take_nil]
      · rw [if_neg hc, show ((j : Int) + 1 - 0 - 1).toNat = j by omega]; rfl
    rw [e2]
    refine ⟨?_, take_take_len _ _, ?_⟩
    · rw [List.length_take, List.length_drop]; omega
    · unfold termF
      rw [fairL_yes ok.mb.log]
      show (termL 0 0 m.log ((j : Int) + 1 - 1)).1 = _
      rw [termL_at j hjl (by omega)]
  · show m.settled ≤ ((h.ll m.term).length : Int)
    rw [k2]; exact hset
  · show Cp n h m.term ((h.ll m.term).take m.settled.toNat)
    rw [k2]; exact o.cp
theorem Mi.adds {n : Nat} {h : Gh} {m : Mb} (o : Mi n h m) (ok : InGr n m) (hr : m.role = 2) : ∀ y ∈ m.adds, Xi n h y := fun y hy => by
  obtain ⟨k, h1, _, rfl⟩ := toAll_mem hy
  have := ok.many
  exact o.addn ok hr (by omega) (by omega)
theorem none_said {n : Nat} {h : Gh} : ∀ y ∈ ([] : List Ms), Xi n h y := fun y hy => by cases hy
theorem one_said {n : Nat} {h : Gh} {z : Ms} (q : Xi n h z) : ∀ y ∈ [z], Xi n h y := fun y hy => by rw [List.mem_singleton] at hy; subst hy; exact q
theorem timeout_ev {n : Nat} {h : Gh} (gi : Gi n h) {m : Mb} (o : Mi n h m) (ok : InGr n m) : ∃ h', By m.id h h' ∧ Gi n h' ∧ Mi n h' m.timeout.1 ∧ ∀ y ∈ m.timeout.2, Xi n h' y := by
  have h1 := mayV_true ok.mb.ballot
  have i1 := ok.mb.id1
  have i2 := ok.mb.idn
  have i3 := ok.many
  unfold Mb.timeout
  split
  · exact ⟨h, .refl _ _, gi, o, none_said⟩
  · rename_i hn
    obtain ⟨b, g', o'⟩ := stood_both gi o ok.mb.rise (by omega) (by omega)
    have hs := ok.stand (by omega)
    split
    · rename_i hw
      unfold Mb.won at hw
      rw [decide_eq_true_eq, hs.many] at hw
      obtain ⟨h', b', g'', o''⟩ := lead_ev g' o' hs rfl hw
      exact ⟨h', b.trans (by omega) b', g'', o'', o''.adds (hs.lead (by show 1 ≤ m.term + 1; omega)) (lead_role _)⟩
    · refine ⟨_, b, g', o', fun y hy => ?_⟩
      obtain ⟨k, _, _, rfl⟩ := toAll_mem hy
      refine ⟨fun _ => ⟨?_, ?_, ?_⟩, fun q => absurd q (by show ¬ (0 : Int) = 1; decide), fun q => absurd q (by show ¬ (0 : Int) = 2; decide), fun q => absurd q (by show ¬ (0 : Int) = 3; decide)⟩
      · exact up2_at _ _ _ _
      · show (lastF 0 0 m.log).1 = ((up2 h.cl m.id (m.term + 1) m.log m.id (m.term + 1)).length : Int)
        rw [up2_at, ok.mb.lastF]
      · show (lastF 0 0 m.log).2 = endT (up2 h.cl m.id (m.term + 1) m.log m.id (m.term + 1)) 0
        rw [up2_at, ok.mb.lastF]
theorem beat_ev {n : Nat} {h : Gh} {m : Mb} (o : Mi n h m) (ok : InGr n m) : ∀ y ∈ m.beat.2, Xi n h y := by
  unfold Mb.beat
  simp only
  split
  · rename_i hr; exact o.adds ok hr
  · exact none_said
theorem propose_ev {n : Nat} {h : Gh} (gi : Gi n h) {m : Mb} (o : Mi n h m) (ok : InGr n m) {c : Cm} (hc : EnWf (m.term, c)) : ∃ h', By m.id h h' ∧ Gi n h' ∧ Mi n h' (m.propose c).1 ∧ ∀ y ∈ (m.propose c).2.2.1, Xi n h' y := by
  unfold Mb.propose
  split
  · exact ⟨h, .refl _ _, gi, o, none_said⟩
  split
  · exact ⟨h, .refl _ _, gi, o, none_said⟩
  · rename_i h1 _
    have hr : m.role = 2 := by omega
    obtain ⟨h', b, g', o'⟩ := took_ev gi o ok hr hc
    exact ⟨h', b, g', o', o'.adds (ok.took (ok.mb.live (by omega)) hc) (by rw [took_role]; exact hr)⟩
theorem asked_ev {n : Nat} {h : Gh} (gi : Gi n h) {m : Mb} (o : Mi n h m) (ok : InGr n m) {x : Ms} (xi : Xi n h x) (hk : x.kind = 0) (hf : 1 ≤ x.frm) (hne : x.frm ≠ m.id) (ht : x.term ≤ m.term) : ∃ h', By m.id h h' ∧ Gi n h' ∧ Mi n h' (m.asked x).1 ∧ ∀ y ∈ (m.asked x).2, Xi n h' y := by
  have i1 := ok.mb.id1
  have hs : seeF m.term m.vote x.term = (m.term, m.vote) := if_neg (by omega)
  by_cases hc : x.term = m.term ∧ memberB x.frm = true ∧ (m.vote = 0 ∨ m.vote = x.frm) ∧ newerB x.index x.lterm (lastF 0 0 m.log).1 (lastF 0 0 m.log).2 = true
  · have hg : grantF m.term m.vote 0 0 m.log x.frm x.term x.index x.lterm = (m.term, x.frm, true) := by unfold grantF; rw [hs]; exact if_pos hc
    obtain ⟨c1, _, c3, c4⟩ := hc
    rcases c3 with hv | hv
    · obtain ⟨a1, a2, a3⟩ := xi.ask hk
      rw [c1] at a1 a2 a3
      rw [a2, a3, ok.mb.lastF] at c4
      obtain ⟨b, g'⟩ := gi.gave o ok.mb.rise hv (by omega) (by omega) hne a1 c4
      have o' := o.gave gi hv (by omega) hne b.ext
      refine ⟨_, b, g', ?_, ?_⟩
      · unfold Mb.asked
        rw [hg]
        exact o'
      · unfold Mb.asked
        rw [hg]
        refine one_said ⟨fun q => absurd q (by show ¬ (1 : Int) = 0; decide), fun _ _ => ?_, fun q => absurd q (by show ¬ (1 : Int) = 2; decide), fun q => absurd q (by show ¬ (1 : Int) = 3; decide)⟩
        exact up2_at _ _ _ _
    · refine ⟨h, .refl _ _, gi, ?_, ?_⟩
      · unfold Mb.asked
        rw [hg, ← hv]
        exact o
      · unfold Mb.asked
        rw [hg]
        refine one_said ⟨fun q => absurd q (by show ¬ (1 : Int) = 0; decide), fun _ _ => ?_, fun q => absurd q (by show ¬ (1 : Int) = 2; decide), fun q => absurd q (by show ¬ (1 : Int) = 3; decide)⟩
        show h.vt m.id m.term = x.frm
        rw [o.vote, hv]
  · have hg : grantF m.term m.vote 0 0 m.log x.frm x.term x.index x.lterm = (m.term, m.vote, false) := by unfold grantF; rw [hs]; exact if_neg hc
    refine ⟨h, .refl _ _, gi, ?_, ?_⟩
    · unfold Mb.asked
      rw [hg]
      exact o
    · unfold Mb.asked
      rw [hg]
      exact one_said ⟨fun q => absurd q (by show ¬ (1 : Int) = 0; decide), fun _ q => (by cases q), fun q => absurd q (by show ¬ (1 : Int) = 2; decide), fun q => absurd q (by show ¬ (1 : Int) = 3; decide)⟩
theorem Mi.counted {n : Nat} {h : Gh} {m : Mb} (o : Mi n h m) {x : Ms} (hf : 1 ≤ x.frm ∧ x.frm ≤ n) (hv : h.vt x.frm m.term = m.id) : Mi n h (m.counted x) := by
  refine ⟨o.lm, o.led, o.vote, o.fut, o.futv, fun hr => ?_, o.keeps, o.mat, o.nxt, o.set, o.cp⟩
  obtain ⟨k1, k2, k3, k4⟩ := o.cand hr
  refine ⟨k1, k2, k3, fun v hm => ?_⟩
  have hm : v ∈ (if x.frm ∈ m.votes then m.votes else m.votes ++ [x.frm]) := hm
  split at hm
  · exact k4 v hm
  · rcases List.mem_append.1 hm with q | q
    · exact k4 v q
    · rw [List.mem_singleton] at q
      subst q
      exact ⟨hf, hv⟩
theorem voted_ev {n : Nat} {h : Gh} (gi : Gi n h) {m : Mb} (o : Mi n h m) (ok : InGr n m) {x : Ms} (xi : Xi n h x) (hk : x.kind = 1) (hf : 1 ≤ x.frm ∧ x.frm ≤ n) (hd : x.dst = m.id) : ∃ h', By m.id h h' ∧ Gi n h' ∧ Mi n h' (m.voted x).1 ∧ ∀ y ∈ (m.voted x).2, Xi n h' y := by
  have hfr : 1 ≤ x.frm ∧ x.frm ≤ 16 := by have := ok.mb.n16; have := ok.many; omega
  unfold Mb.voted
  split
  · exact ⟨h, .refl _ _, gi, o, none_said⟩
  · rename_i hn
    have hr : m.role = 1 := by omega
    have hxt : x.term = m.term := by omega
    have hy : x.yes = true := by
      cases q : x.yes with
      | true => rfl
      | false => exact (hn (.inr (.inr q))).elim
    have hv := xi.say hk hy
    rw [hxt, hd] at hv
    have oc := o.counted hf hv
    have okc : InGr n (m.counted x) := ⟨ok.mb.counted x hfr, ok.many, ok.wf⟩
    split
    · rename_i hw
      unfold Mb.won at hw
      rw [decide_eq_true_eq, okc.many] at hw
      obtain ⟨h', b, g', o'⟩ := lead_ev gi oc okc hr hw
      exact ⟨h', b, g', o', o'.adds (okc.lead (ok.mb.live (by omega))) (lead_role _)⟩
    · exact ⟨h, .refl _ _, gi, oc, none_said⟩
end Go.Proofs.YthjdbmfobmnnlaaGreat

/-
  Entries that come, and what becomes of a member that hears a message.
-/
namespace Go.Proofs.YthjdbmfobmnnlaaGreat
open Go.RowKit
set_option linter.unusedVariables false
/-- A log that is cut, or goes on as that of a leader, keeps what must be kept. -/
theorem keeps_cut {n : Nat} {h : Gh} (gi : Gi n h) {i T U : Int} {X L : List En} {c : Nat} (hT : h.ld T ≠ 0) (hU : T ≤ U) (ht : ∀ t, 0 < h.ac i t → t ≤ T) (hX : ∀ t k, k < h.ac i t → Pre h X t k ∨ ∃ T', t < T' ∧ T' ≤ U ∧ h.ld T' ≠ 0 ∧ ¬ Pre h (h.ll T') t k)
    (hc : X.take c = L.take c) (hd : ∀ e f, X[c]? = some e → (h.ll T)[c]? = some f → e.1 ≠ f.1) : ∀ t k, k < h.ac i t → Pre h L t k ∨ ∃ T', t < T' ∧ T' ≤ U ∧ h.ld T' ≠ 0 ∧ ¬ Pre h (h.ll T') t k := by
  intro t k hk
  rcases hX t k hk with p | p
  · by_cases q : k < c
    · exact .inl (p.of_take q hc.symm)
    · have hkX := p.len
      have hce : X[c]? = some (X[c]'(by omega)) := List.getElem?_eq_getElem (by omega)
      have h1 := p.at_ (j := c) (by omega)
      rw [hce] at h1
      by_cases e : t = T
      · subst e
        exact (hd _ _ hce h1.symm rfl).elim
      · have := ht t (by omega)
        refine .inr ⟨T, by omega, hU, hT, fun r => ?_⟩
        have h2 := r.at_ (j := c) (by omega)
        rw [← h1] at h2
        exact hd _ _ hce h2 rfl
  · exact .inr p
theorem commonN_max : ∀ {X L : List En} {c : Nat}, c ≤ X.length → c ≤ L.length → X.take c = L.take c → c ≤ commonN X L
  | _, _, 0, _, _, _ => Nat.zero_le _
  | [], _, c + 1, h, _, _ => by simp at h
  | _ :: _, [], c + 1, _, h, _ => by simp at h
  | x :: X, y :: L, c + 1, h1, h2, h => by
    rw [List.take_succ_cons, List.take_succ_cons, List.cons.injEq] at h
    unfold commonN
    rw [if_pos h.1]
    have := commonN_max (X := X) (L := L) (c := c) (by simpa using h1) (by simpa using h2) h.2
    omega
/-- Where the log stays, a torn save is the ballot that was to be saved, and that log. -/
theorem torn_same {s0 s : St} {t v : Int} {l : List En} (h : TornT s0 t v l s) (e : l = s0.2.2) : s = (t, v, l) := by
  obtain ⟨h1, h2, h3⟩ := h
  subst e
  rw [commonN_self] at h3
  rcases h3 with ⟨k, k1, k2⟩ | ⟨k, k1, k2⟩
  · rw [List.take_of_length_le k1] at k2
    rw [← h1, ← h2, ← k2]
  · rw [List.take_of_length_le k1] at k2
    rw [← h1, ← h2, ← k2]
/-- What a member's log is merged with. -/
structure Joins (h : Gh) (m : Mb) (x : Ms) (L : List En) (c : Nat) : Prop where
  led : h.ld m.term ≠ 0
  i0 : 0 ≤ x.index
  upto : x.index.toNat + x.ents.length ≤ (h.ll m.term).length
  new : L.take (x.index.toNat + x.ents.length) = (h.ll m.term).take (x.index.toNat + x.ents.length)
  len : x.index.toNat + x.ents.length ≤ L.length
  lm : Lm h L
  cX : c ≤ m.log.length
  cL : c ≤ L.length
  same : m.log.take c = L.take c
  diff : ∀ e f, m.log[c]? = some e → (h.ll m.term)[c]? = some f → e.1 ≠ f.1
  lie : L = m.log ∨ (L.length = x.index.toNat + x.ents.length ∧ c < x.index.toNat + x.ents.length)
theorem joins {n : Nat} {h : Gh} (gi : Gi n h) {m : Mb} (o : Mi n h m) (ok : MbOk m) {x : Ms} (xi : Xi n h x) (hk : x.kind = 2) (hf : 1 ≤ x.frm) (ht : x.term = m.term) (ha : (addF 0 0 m.log x.index x.lterm x.ents).2.2.2 = 0) :
    ∃ c, Joins h m x (mergeL m.log x.index.toNat x.ents) c := by
  obtain ⟨a1, a2, a3, a4, a5, a6, a7⟩ := addF_ok ha
  obtain ⟨k1, k2, k3, k4⟩ := xi.add hk
  obtain ⟨j1, j2, j3⟩ := k2 a3
  rw [ht] at k1 j1 j2 j3
  have hT : h.ld m.term ≠ 0 := by rw [k1]; omega
  have hY := gi.lm m.term hT
  have hX := o.lm
  generalize hi : x.index.toNat = i at *
  have hil : i ≤ m.log.length := by omega
  have htake : m.log.take i = (h.ll m.term).take i := by
    rw [termL_at (b := 0) (t := 0) (es := m.log) i hil (by omega)] at a5
    simp only at a5
    cases i with
    | zero => rw [List.take_zero, List.take_zero]
    | succ i =>
      have e1 : m.log[i]? = some (m.log[i]'(by omega)) := List.getElem?_eq_getElem (by omega)
      have e2 : (h.ll m.term)[i]? = some ((h.ll m.term)[i]'(by omega)) := List.getElem?_eq_getElem (by omega)
      have hx : m.log.take (i + 1) ≠ [] := fun q => by
        have := congrArg List.length q
        rw [List.length_take] at this
        simp only [List.length_nil] at this
        omega
      have hy : (h.ll m.term).take (i + 1) ≠ [] := fun q => by
        have := congrArg List.length q
        rw [List.length_take] at this
        simp only [List.length_nil] at this
        omega
      obtain ⟨e, he, het⟩ := endT_last (f := 0) hx
      obtain ⟨f, hf2, hft⟩ := endT_last (f := 0) hy
      have l1 : (m.log.take (i + 1)).length - 1 = i := by rw [List.length_take]; omega
      have l2 : ((h.ll m.term).take (i + 1)).length - 1 = i := by rw [List.length_take]; omega
      rw [l1, List.getElem?_take, if_pos (by omega)] at he
      rw [l2, List.getElem?_take, if_pos (by omega)] at hf2
      exact hX.same hY he hf2 (by omega)
  obtain ⟨c, c1, c2, c3, c4, c5⟩ := merge_cases hX hY x.ents.length i hil j1 htake
  rw [← j2] at c5
  rcases c5 with ⟨d1, d2⟩ | ⟨d1, d2, d3⟩
  · rw [d2]
    have hle : i + x.ents.length ≤ m.log.length := by omega
    refine ⟨m.log.length, hT, a3, by rw [hi]; exact j1, by rw [hi, ← d1]; exact c3, by rw [hi]; exact hle, hX, Nat.le_refl _, Nat.le_refl _, rfl, fun e f q _ => ?_, .inl rfl⟩
    rw [List.getElem?_eq_none (Nat.le_refl _)] at q
    cases q
  · have hlen : (mergeL m.log i x.ents).length = i + x.ents.length := by rw [d2, List.length_take]; omega
    refine ⟨c, hT, a3, by rw [hi]; exact j1, ?_, by rw [hi, hlen]; exact Nat.le_refl _, by rw [d2]; exact hY.take _, c4, by omega, ?_, d3, .inr ⟨by rw [hi]; exact hlen, by rw [hi]; exact d1⟩⟩
    · rw [hi, d2, List.take_take, Nat.min_self]
    · rw [d2, List.take_take, Nat.min_eq_left (by omega)]
      exact c3
theorem Mi.acTerm {n : Nat} {h : Gh} {m : Mb} (o : Mi n h m) : ∀ t, 0 < h.ac m.id t → t ≤ m.term := fun t q => by
  refine Int.not_lt.1 fun e => ?_
  have := (o.fut t e).2.1
  omega
/-- What is settled stays. -/
theorem Joins.settled {n : Nat} {h : Gh} (gi : Gi n h) {m : Mb} (o : Mi n h m) (ok : MbOk m) {x : Ms} {L : List En} {c : Nat} (j : Joins h m x L c) : m.settled ≤ c ∨ L = m.log := by
  rcases j.lie with e | ⟨e1, e2⟩
  · exact .inr e
  · left
    refine Int.not_lt.1 fun hlt => ?_
    have h0 := ok.set0
    have hs := o.set
    obtain ⟨s, hsn⟩ : ∃ s : Nat, m.settled = (s : Int) := ⟨m.settled.toNat, by omega⟩
    have hcp := o.cp
    rw [hsn] at hcp hlt hs
    rw [Int.toNat_natCast] at hcp
    have h1 := hcp.has gi (Int.le_refl _) j.led
    have hl : (m.log.take s).length = s := by rw [List.length_take]; omega
    rw [hl] at h1
    have hce : m.log[c]? = some (m.log[c]'(by omega)) := List.getElem?_eq_getElem (by omega)
    have h2 := congrArg (fun l => l[c]?) h1.2
    simp only [List.getElem?_take, if_pos (show c < s by omega)] at h2
    rw [hce] at h2
    exact j.diff _ _ hce h2.symm rfl
def Gh.took (h : Gh) (i T : Int) (k : Nat) : Gh := { h with ac := up2 h.ac i T (max (h.ac i T) k) }
theorem accept_ev {n : Nat} {h : Gh} (gi : Gi n h) {m : Mb} (o : Mi n h m) (ok : MbOk m) {x : Ms} (xi : Xi n h x) (hk : x.kind = 2) (ht : x.term = m.term) {L : List En} {c : Nat} (j : Joins h m x L c) :
    By m.id h (h.took m.id m.term (x.index.toNat + x.ents.length)) ∧ Gi n (h.took m.id m.term (x.index.toNat + x.ents.length)) ∧ Mi n (h.took m.id m.term (x.index.toNat + x.ents.length)) (m.added' L x) := by
  obtain ⟨k1, k2, k3, k4⟩ := xi.add hk
  rw [ht] at k1 k3 k4
  have hst := j.settled gi o ok
  have h0 := ok.set0
  have hi0 := j.i0
  have hup := j.upto
  have hlen := j.len
  have hnew := j.new
  generalize hN : x.index.toNat + x.ents.length = N at *
  generalize hT : m.term = T at *
  have acat : (h.took m.id T N).ac m.id T = max (h.ac m.id T) N := up2_at _ _ _ _
  have acne : ∀ j U, ¬ (j = m.id ∧ U = T) → (h.took m.id T N).ac j U = h.ac j U := fun j U q => up2_ne _ _ q
  have X : Ext h (h.took m.id T N) := ⟨fun _ _ => rfl, fun _ _ => List.prefix_refl _, fun _ _ _ => rfl, fun _ _ _ => rfl, fun j U => by
    by_cases q : j = m.id ∧ U = T
    · obtain ⟨rfl, rfl⟩ := q
      rw [acat]; exact Nat.le_max_left _ _
    · rw [acne j U q]; exact Nat.le_refl _, fun _ _ => rfl⟩
  have hsetL : m.settled ≤ (L.length : Int) ∧ L.take m.settled.toNat = m.log.take m.settled.toNat := by
    rcases hst with e | e
    · have := j.cL
      refine ⟨by omega, ?_⟩
      have h2 := congrArg (List.take m.settled.toNat) j.same
      rw [List.take_take, List.take_take, Nat.min_eq_left (by omega)] at h2
      exact h2.symm
    · rw [e]; exact ⟨o.set, rfl⟩
  refine ⟨⟨X, fun _ _ _ => rfl, fun _ _ _ => rfl, fun _ _ _ => rfl, fun _ _ => rfl, fun j U q => acne j U fun e => q e.1, fun _ => .inl rfl, fun _ _ _ => rfl, fun _ => .inl rfl⟩,
    ⟨gi.lm, gi.le, gi.pre, gi.own, gi.old, gi.quorum, gi.newer, gi.vlm, fun j' U hj hq t k htU hk' => ?_, fun j' t hk' => ?_, gi.self⟩,
    ⟨j.lm, fun hr => (by cases hr), ?_, fun U hU => ?_, ?_, fun hr => (by cases hr), fun t k hk' => ?_, fun hr => (by cases hr), fun hr => (by cases hr), ?_, ?_⟩⟩
  · have hj : h.vt j' U ≠ 0 := hj
    have hne : ¬ (j' = m.id ∧ t = T) := fun e => by
      obtain ⟨rfl, rfl⟩ := e
      exact hj (o.fut U (by omega)).1
    rw [acne j' t hne] at hk'
    exact gi.keeps j' U hj hq t k htU hk'
  · by_cases q : j' = m.id ∧ t = T
    · obtain ⟨rfl, rfl⟩ := q
      rw [acat]
      refine ⟨by have := j.led; rw [hT] at this; exact this, ?_⟩
      show max (h.ac m.id t) N ≤ (h.ll t).length
      by_cases e : 0 < h.ac m.id t
      · have := (gi.acc m.id t e).2
        omega
      · omega
    · rw [acne j' t q] at hk' ⊢
      exact gi.acc j' t hk'
  · exact o.vote
  · have hU : m.term < U := hU
    obtain ⟨h1, h2, h3⟩ := o.fut U hU
    exact ⟨h1, by show (h.took m.id T N).ac m.id U = 0; rw [acne _ _ (by omega)]; exact h2, h3⟩
  · exact o.futv
  · have hk' : k < (h.took m.id T N).ac m.id t := hk'
    show Pre h L t k ∨ ∃ T', t < T' ∧ T' ≤ m.term ∧ h.ld T' ≠ 0 ∧ ¬ Pre h (h.ll T') t k
    have cut := keeps_cut gi (i := m.id) (T := T) (U := T) (X := m.log) (L := L) (c := c) (by rw [← hT]; exact hT ▸ j.led) (Int.le_refl _) (by rw [← hT]; exact o.acTerm) (by rw [← hT]; exact o.keeps) j.same (by rw [← hT]; exact hT ▸ j.diff)
    rw [hT]
    by_cases q : t = T
    · subst q
      rw [acat] at hk'
      by_cases e : k < N
      · left
        refine ⟨by omega, ?_⟩
        have h2 := congrArg (List.take (k + 1)) hnew
        rw [List.take_take, List.take_take, Nat.min_eq_left (by omega)] at h2
        exact h2
      · exact cut t k (by omega)
    · rw [acne _ _ (by omega)] at hk'
      exact cut t k hk'
  · show max m.settled (min x.commit (x.index + x.ents.length)) ≤ (L.length : Int)
    omega
  · show Cp n _ m.term (L.take (max m.settled (min x.commit (x.index + x.ents.length))).toNat)
    by_cases e : min x.commit (x.index + x.ents.length) ≤ m.settled
    · rw [Int.max_eq_left e, hsetL.2]
      exact o.cp.ext gi X
    · rw [Int.max_eq_right (by omega)]
      have h2 : L.take (min x.commit (x.index + x.ents.length)).toNat = ((h.ll T).take x.commit.toNat).take (min x.commit (x.index + x.ents.length)).toNat := by
        have h3 := congrArg (List.take (min x.commit (x.index + x.ents.length)).toNat) hnew
        rw [List.take_take, List.take_take, Nat.min_eq_left (by omega)] at h3
        rw [h3, List.take_take, Nat.min_eq_left (by omega)]
      rw [h2, hT]
      exact (k4.take _).ext gi X
theorem add_ev {n : Nat} {h : Gh} (gi : Gi n h) {m : Mb} (o : Mi n h m) (ok : MbOk m) {x : Ms} (xi : Xi n h x) (hk : x.kind = 2) (hf : 1 ≤ x.frm) (hx : x.term ≤ m.term) : ∃ h', By m.id h h' ∧ Gi n h' ∧ Mi n h' (m.add x).1 ∧ ∀ y ∈ (m.add x).2, Xi n h' y := by
  have no : ∀ (h' : Gh) (y : Ms), y.kind = 3 → y.yes = false → Xi n h' y := fun h' y q r => ⟨fun e => by omega, fun e => by omega, fun e => by omega, fun _ e => by rw [r] at e; cases e⟩
  unfold Mb.add
  split
  · exact ⟨h, .refl _ _, gi, o, one_said (no _ _ rfl rfl)⟩
  split
  · exact ⟨h, .refl _ _, gi, o, none_said⟩
  split
  · exact ⟨h, .refl _ _, gi, o.follow, one_said (no _ _ rfl rfl)⟩
  · rename_i h1 h2 h3
    have ha : (addF 0 0 m.log x.index x.lterm x.ents).2.2.2 = 0 := by omega
    have ht : x.term = m.term := by omega
    obtain ⟨a1, a2, a3, a4, a5, a6, a7⟩ := addF_ok ha
    obtain ⟨c, j⟩ := joins gi o ok xi hk hf ht ha
    obtain ⟨b, g', o'⟩ := accept_ev gi o ok xi hk ht j
    rw [a7]
    refine ⟨_, b, g', o', one_said ⟨fun q => absurd q (by show ¬ (3 : Int) = 0; decide), fun q => absurd q (by show ¬ (3 : Int) = 1; decide), fun q => absurd q (by show ¬ (3 : Int) = 2; decide), fun _ _ => ?_⟩⟩
    show x.index + (x.ents.length : Int) ≤ ((up2 h.ac m.id m.term (max (h.ac m.id m.term) (x.index.toNat + x.ents.length)) m.id m.term : Nat) : Int)
    rw [up2_at]
    omega
theorem added_ev {n : Nat} {h : Gh} (gi : Gi n h) {m : Mb} (o : Mi n h m) (ok : InGr n m) {x : Ms} (xi : Xi n h x) (hk : x.kind = 3) (hf : 1 ≤ x.frm ∧ x.frm ≤ n) : Mi n h (m.added x).1 ∧ ∀ y ∈ (m.added x).2, Xi n h y := by
  have hlf := ok.mb.lastF
  have hlen := ok.mb.len64
  have hp := ok.mb.prAt x.frm
  unfold Mb.added
  split
  · exact ⟨o, none_said⟩
  rename_i h1
  have hr : m.role = 2 := by omega
  have hxt : x.term = m.term := by omega
  have hmat := o.mat hr x.frm hf.1 hf.2
  have hnxt := o.nxt hr x.frm hf.1 hf.2
  split
  · have ob : Mi n h (m.back x) := o.setPr hf.1 (fun _ => hmat) (fun _ => by show max 1 (min ((m.prAt x.frm).2 - 2) x.index + 1) ≤ _; omega)
    have okb : InGr n (m.back x) := ok.setPr _ _ (by simp only; omega)
    exact ⟨ob, one_said (ob.addn okb hr hf.1 hf.2)⟩
  rename_i hy
  have hy : x.yes = true := by
    cases q : x.yes with
    | true => rfl
    | false => exact (hy q).elim
  have hac := xi.rep hk hy
  rw [hxt] at hac
  split
  · exact ⟨o, none_said⟩
  rename_i h3
  rw [hlf] at h3 ⊢
  simp only at h3 ⊢
  have oks : InGr n (m.setPr x.frm (max (m.prAt x.frm).1 x.index, max (m.prAt x.frm).1 x.index + 1)) := ok.setPr _ _ (by simp only; omega)
  have hm64 : (m.prAt x.frm).1 ≤ (m.log.length : Int) := by
    have h4 := (o.led hr)
    by_cases q : 0 < h.ac x.frm m.term
    · have := (gi.acc x.frm m.term q).2
      rw [h4.2.1] at this
      omega
    · omega
  have os : Mi n h (m.setPr x.frm (max (m.prAt x.frm).1 x.index, max (m.prAt x.frm).1 x.index + 1)) := o.setPr hf.1 (fun _ => by simp only; omega) (fun _ => by simp only; omega)
  have om : Mi n h (m.matched x) := os.settle oks.mb oks.many hr
  have okm : InGr n (m.matched x) := oks.settle
  split
  · exact ⟨om, none_said⟩
  · exact ⟨om, one_said (om.addn okm hr hf.1 hf.2)⟩
theorem seen_inGr {n : Nat} {m : Mb} (ok : InGr n m) {x : Ms} (hx : x.term ≤ 1073741824) : InGr n (m.seen x) :=
  ⟨ok.mb.seen x hx, by unfold Mb.seen; split <;> exact ok.many, by unfold Mb.seen; split <;> exact ok.wf⟩
theorem seen_facts (m : Mb) (x : Ms) : (m.seen x).id = m.id ∧ (m.seen x).log = m.log ∧ x.term ≤ (m.seen x).term := by
  unfold Mb.seen
  split
  · exact ⟨rfl, rfl, Int.le_refl _⟩
  · exact ⟨rfl, rfl, by omega⟩
theorem hear_ev {n : Nat} {h : Gh} (gi : Gi n h) {m : Mb} (o : Mi n h m) (ok : InGr n m) {x : Ms} (xi : Xi n h x) : ∃ h', By m.id h h' ∧ Gi n h' ∧ Mi n h' (m.hear x).1 ∧ ∀ y ∈ (m.hear x).2, Xi n h' y := by
  unfold Mb.hear
  split
  rotate_left 1
  · exact ⟨h, .refl _ _, gi, o, none_said⟩
  rename_i hh
  unfold Mb.hears at hh
  rw [decide_eq_true_eq, ok.many] at hh
  obtain ⟨f1, f2, f3, f4, f5, f6, f7, f8⟩ := hh
  obtain ⟨s1, s2, s3⟩ := seen_facts m x
  have os := o.seen x
  have oks := seen_inGr ok f6
  generalize m.seen x = s at *
  rw [← s1] at f1 f4 ⊢
  unfold Mb.acts
  split
  · exact asked_ev gi os oks xi (by assumption) f2 f4 s3
  split
  · exact voted_ev gi os oks xi (by assumption) ⟨f2, f3⟩ f1
  split
  · exact add_ev gi os oks.mb xi (by assumption) f2 s3
  · obtain ⟨q1, q2⟩ := added_ev gi os oks xi (by omega) ⟨f2, f3⟩
    exact ⟨h, .refl _ _, gi, q1, q2⟩
end Go.Proofs.YthjdbmfobmnnlaaGreat

/-
  Whatever happens to a group, what is known of it holds.
-/
namespace Go.Proofs.YthjdbmfobmnnlaaGreat
open Go.RowKit
set_option linter.unusedVariables false
/-- A member that begins anew from such a state. -/
def Again (n : Nat) (h : Gh) (i : Int) (s : St) : Prop := ∀ m' : Mb, m'.id = i → m'.term = s.1 → m'.vote = s.2.1 → m'.log = s.2.2 → m'.role = 0 → m'.settled = 0 → Mi n h m'
theorem again_of {n : Nat} {h : Gh} {m : Mb} (o : Mi n h m) {s : St} (e : s = (m.term, m.vote, m.log)) : Again n h m.id s := fun m' e1 e2 e3 e4 e5 e6 => by
  subst e
  exact o.fresh e1 e2 e3 e4 e5 e6
theorem lead_log (m : Mb) : m.lead.log = m.log ∨ ∃ e, m.lead.log = m.log ++ [e] := by
  show (m.clear.put (0, 0, 0, 0, 0, 0)).log = m.log ∨ ∃ e, (m.clear.put (0, 0, 0, 0, 0, 0)).log = m.log ++ [e]
  unfold Mb.put
  split
  · exact .inl rfl
  · exact .inr ⟨_, rfl⟩
theorem lead_ballot (m : Mb) : m.lead.id = m.id ∧ m.lead.term = m.term ∧ m.lead.vote = m.vote := by
  obtain ⟨p1, p2, p3, p4, p5, p6, p7⟩ := put_facts m.clear (0, 0, 0, 0, 0, 0)
  exact ⟨p1, p3, p4⟩
theorem added_log (m : Mb) (x : Ms) : (m.added x).1.log = m.log := by
  unfold Mb.added
  split
  · rfl
  split
  · rfl
  split
  · rfl
  split <;> rfl
/-- A log that was torn while it was merged. -/
theorem torn_merge {n : Nat} {h : Gh} (gi : Gi n h) {m : Mb} (o : Mi n h m) {x : Ms} {L : List En} {c : Nat} (j : Joins h m x L c) {s : St} (ht : TornT (m.term, m.vote, m.log) m.term m.vote L s) : Again n h m.id s := by
  obtain ⟨h1, h2, h3⟩ := ht
  have hm := commonN_max j.cX j.cL j.same
  have hs : Lm h s.2.2 ∧ m.log.take c = s.2.2.take c := by
    rcases h3 with ⟨k, k1, k2⟩ | ⟨k, k1, k2⟩
    · have k1 : commonN m.log L ≤ k := k1
      have k2 : s.2.2 = m.log.take k := k2
      rw [k2, List.take_take, Nat.min_eq_left (by omega)]
      exact ⟨o.lm.take _, rfl⟩
    · have k1 : commonN m.log L ≤ k := k1
      rw [k2, List.take_take, Nat.min_eq_left (by omega)]
      exact ⟨j.lm.take _, j.same⟩
  intro m' e1 e2 e3 e4 e5 e6
  rw [h1] at e2
  rw [h2] at e3
  refine ⟨by rw [e4]; exact hs.1, fun hr => (by rw [e5] at hr; cases hr), by rw [e1, e2, e3]; exact o.vote, fun T hT => by rw [e1]; rw [e2] at hT; exact o.fut T hT, fun T j hT => by rw [e1]; rw [e2] at hT; exact o.futv T j hT, fun hr => (by rw [e5] at hr; cases hr), fun t k hk => ?_, fun hr => (by rw [e5] at hr; cases hr), fun hr => (by rw [e5] at hr; cases hr), by rw [e6]; omega, by rw [e6]; exact .inl rfl⟩
  rw [e1] at hk
  rw [e2, e4]
  exact keeps_cut gi j.led (Int.le_refl _) o.acTerm o.keeps hs.2 j.diff t k hk
theorem hear_torn {n : Nat} {h : Gh} (gi : Gi n h) {m : Mb} (o : Mi n h m) (ok : InGr n m) {x : Ms} (xi : Xi n h x) {s : St} (ht : TornT (m.term, m.vote, m.log) (m.hear x).1.term (m.hear x).1.vote (m.hear x).1.log s) : ∃ h', By m.id h h' ∧ Gi n h' ∧ Again n h' m.id s := by
  obtain ⟨h', b, g', o', _⟩ := hear_ev gi o ok xi
  have hid : (m.hear x).1.id = m.id := (rises_hear ok.mb x).id
  by_cases hlog : (m.hear x).1.log = m.log
  · refine ⟨h', b, g', ?_⟩
    rw [← hid]
    exact again_of o' (torn_same ht hlog)
  by_cases hh : m.hears x = true
  rotate_left 1
  · have e : m.hear x = (m, []) := if_neg hh
    rw [e] at hlog
    exact (hlog rfl).elim
  have e : m.hear x = (m.seen x).acts x := if_pos hh
  rw [e] at ht hid hlog o'
  unfold Mb.hears at hh
  rw [decide_eq_true_eq, ok.many] at hh
  obtain ⟨f1, f2, f3, f4, f5, f6, f7, f8⟩ := hh
  obtain ⟨s1, s2, s3⟩ := seen_facts m x
  have os := o.seen x
  have oks := seen_inGr ok f6
  generalize m.seen x = z at *
  rw [← s1] at b ⊢
  rw [← s2] at hlog
  have ht : TornT (z.term, z.vote, z.log) (z.acts x).1.term (z.acts x).1.vote (z.acts x).1.log s := by
    obtain ⟨t1, t2, t3⟩ := ht
    refine ⟨t1, t2, ?_⟩
    show (∃ k, commonN z.log _ ≤ k ∧ s.2.2 = z.log.take k) ∨ (∃ k, commonN z.log _ ≤ k ∧ _)
    rw [s2]
    exact t3
  rw [← s1] at hid
  clear o f1 e ok s1 s2
  by_cases q0 : x.kind = 0
  · have e : z.acts x = z.asked x := if_pos q0
    rw [e] at hlog
    exact (hlog rfl).elim
  by_cases q1 : x.kind = 1
  · have e : z.acts x = z.voted x := by unfold Mb.acts; rw [if_neg q0, if_pos q1]
    rw [e] at ht hid hlog o'
    unfold Mb.voted at ht hid hlog o'
    split at hlog
    · exact (hlog rfl).elim
    rename_i hn
    rw [if_neg hn] at ht hid o'
    split at hlog
    rotate_left 1
    · exact (hlog rfl).elim
    rename_i hw
    rw [if_pos hw] at ht hid o'
    simp only at ht hid hlog o'
    obtain ⟨l1, l2, l3⟩ := lead_ballot (z.counted x)
    have l2 : (z.counted x).lead.term = z.term := l2
    have l3 : (z.counted x).lead.vote = z.vote := l3
    rcases lead_log (z.counted x) with l4 | ⟨en, l4⟩
    · exact (hlog l4).elim
    have l4 : (z.counted x).lead.log = z.log ++ [en] := l4
    obtain ⟨t1, t2, t3⟩ := ht
    rw [l2] at t1
    rw [l3] at t2
    rw [l4] at t3
    have hm : z.log.length ≤ commonN z.log (z.log ++ [en]) := commonN_max (Nat.le_refl _) (by simp) (by rw [List.take_append_of_le_length (Nat.le_refl _)])
    have hs : s.2.2 = z.log ∨ s.2.2 = z.log ++ [en] := by
      rcases t3 with ⟨k, k1, k2⟩ | ⟨k, k1, k2⟩
      · have k1 : commonN z.log (z.log ++ [en]) ≤ k := k1
        have k2 : s.2.2 = z.log.take k := k2
        rw [List.take_of_length_le (by omega)] at k2
        exact .inl k2
      · have k1 : commonN z.log (z.log ++ [en]) ≤ k := k1
        by_cases q : k = z.log.length
        · rw [q, List.take_append_of_le_length (Nat.le_refl _), List.take_length] at k2
          exact .inl k2
        · rw [List.take_of_length_le (by simp; omega)] at k2
          exact .inr k2
    rcases hs with hs | hs
    · refine ⟨h, .refl _ _, gi, again_of os ?_⟩
      rw [← t1, ← t2, ← hs]
    · refine ⟨h', b, g', ?_⟩
      rw [← hid]
      refine again_of o' ?_
      rw [l2, l3, l4, ← t1, ← t2, ← hs]
  by_cases q2 : x.kind = 2
  · have e : z.acts x = z.add x := by unfold Mb.acts; rw [if_neg q0, if_neg q1, if_pos q2]
    rw [e] at ht hlog
    unfold Mb.add at ht hlog
    split at hlog
    · exact (hlog rfl).elim
    split at hlog
    · exact (hlog rfl).elim
    split at hlog
    · exact (hlog rfl).elim
    rename_i h1 h2 h3
    rw [if_neg h1, if_neg h2, if_neg h3] at ht
    have ha : (addF 0 0 z.log x.index x.lterm x.ents).2.2.2 = 0 := by omega
    have htt : x.term = z.term := by omega
    obtain ⟨a1, a2, a3, a4, a5, a6, a7⟩ := addF_ok ha
    obtain ⟨c, j⟩ := joins gi os oks.mb xi q2 f2 htt ha
    rw [a7] at ht
    exact ⟨h, .refl _ _, gi, torn_merge gi os j ht⟩
  · have e : z.acts x = z.added x := by unfold Mb.acts; rw [if_neg q0, if_neg q1, if_neg q2]
    rw [e, added_log] at hlog
    exact (hlog rfl).elim
/-! ### A group -/
theorem at_get {g : Gr} {i : Int} (h1 : 1 ≤ i) (h2 : i ≤ g.ms.length) : g.ms[(i - 1).toNat]? = some (g.at_ i) := by
  unfold Gr.at_
  rw [List.getD_eq_getElem?_getD, List.getElem?_eq_getElem (show (i - 1).toNat < g.ms.length by omega)]
  rfl
theorem Inv.set {g : Gr} {h h' : Gh} (inv : Inv g h) (ok : GrOk g) {i : Int} (h1 : 1 ≤ i) (h2 : i ≤ g.ms.length) (b : By i h h') (g' : Gi g.ms.length h') {p : Mb × Vt} (mi' : Mi g.ms.length h' p.1) {net : List Ms} (hnet : ∀ x ∈ net, x ∈ g.net ∨ Xi g.ms.length h' x) : Inv ⟨(g.set i p).ms, net⟩ h' := by
  have hl : (g.set i p).ms.length = g.ms.length := Gr.set_len _ _ _
  refine ⟨by rw [hl]; exact g', fun j q hq => ?_, fun x hx => ?_⟩
  · rw [hl]
    have hq : (g.ms.set (i - 1).toNat p)[j]? = some q := hq
    rw [List.getElem?_set] at hq
    split at hq
    · split at hq
      · injection hq with hq
        subst hq
        exact mi'
      · cases hq
    · rename_i hne
      have hp := ok.pair j q hq
      have := hp.id
      exact (inv.mi j q hq).other b inv.gi g' (by omega) (by omega)
  · rw [hl]
    rcases hnet x hx with q | q
    · have hx := ok.net x q
      exact (inv.xi x q).ext b inv.gi hx.frm.1 hx.dst.1
    · exact q
/-- A member begins anew from its disk. -/
theorem Inv.anew {g : Gr} {h h' : Gh} (inv : Inv g h) (ok : GrOk g) {i : Int} (h1 : 1 ≤ i) (h2 : i ≤ g.ms.length) (b : By i h h') (g' : Gi g.ms.length h') {x : Vt} (ha : Again g.ms.length h' i x.2.2) : Inv (g.anew i x) h' :=
  inv.set ok h1 h2 b g' (p := (fresh i g.ms.length x, x)) (ha _ rfl rfl rfl rfl rfl rfl) fun y hy => .inl hy
theorem Inv.here {g : Gr} {h : Gh} (inv : Inv g h) (ok : GrOk g) {i : Int} (h1 : 1 ≤ i) (h2 : i ≤ g.ms.length) : Mi g.ms.length h (g.at_ i).1 ∧ InGr g.ms.length (g.at_ i).1 ∧ (g.at_ i).1.id = i ∧ (g.at_ i).2.2.2 = ((g.at_ i).1.term, (g.at_ i).1.vote, (g.at_ i).1.log) := by
  have hp := at_get h1 h2
  have hk := ok.pair _ _ hp
  have := hk.id
  exact ⟨inv.mi _ _ hp, hk.inGr, by omega, hk.holds⟩
theorem Inv.again {g : Gr} {h : Gh} (inv : Inv g h) (ok : GrOk g) {i : Int} (h1 : 1 ≤ i) (h2 : i ≤ g.ms.length) : Inv (g.anew i (g.at_ i).2) h := by
  obtain ⟨o, _, e, hh⟩ := inv.here ok h1 h2
  refine inv.anew ok h1 h2 (.refl _ _) inv.gi ?_
  have := again_of o hh
  rwa [e] at this
theorem Inv.acts {g : Gr} {h : Gh} (inv : Inv g h) (ok : GrOk g) {i : Int} (h1 : 1 ≤ i) (h2 : i ≤ g.ms.length) {m : Mb} {said : List Ms} (ev : ∃ h', By i h h' ∧ Gi g.ms.length h' ∧ Mi g.ms.length h' m ∧ ∀ y ∈ said, Xi g.ms.length h' y) : ∃ h', Ext h h' ∧ Inv (g.acts i m said) h' := by
  unfold Gr.acts
  split
  · obtain ⟨h', b, g', o', q⟩ := ev
    refine ⟨h', b.ext, inv.set ok h1 h2 b g' (p := (m, syncV (saved m (g.at_ i).2))) o' fun x hx => ?_⟩
    rcases List.mem_append.1 hx with r | r
    · exact .inl r
    · exact .inr (q x r)
  · exact ⟨h, .refl h, inv.again ok h1 h2⟩
theorem Inv.less {g : Gr} {h : Gh} (inv : Inv g h) {net : List Ms} (hnet : ∀ x ∈ net, x ∈ g.net) : Inv ⟨g.ms, net⟩ h := ⟨inv.gi, inv.mi, fun x hx => inv.xi x (hnet x hx)⟩
theorem Inv.msg {g : Gr} {h : Gh} (inv : Inv g h) {k : Nat} (hk : k < g.net.length) : Xi g.ms.length h (g.msg k) ∧ g.msg k ∈ g.net := by
  have : g.msg k ∈ g.net := by
    unfold Gr.msg
    rw [List.getD_eq_getElem?_getD, List.getElem?_eq_getElem hk]
    exact List.getElem_mem hk
  exact ⟨inv.xi _ this, this⟩
theorem Inv.hears {g : Gr} {h : Gh} (inv : Inv g h) (ok : GrOk g) {x : Ms} (xi : Xi g.ms.length h x) (hx : MsOk g.ms.length x) : ∃ h', Ext h h' ∧ Inv (g.hears x) h' := by
  obtain ⟨o, okm, e, _⟩ := inv.here ok hx.dst.1 hx.dst.2
  have := hear_ev inv.gi o okm xi
  rw [e] at this
  exact inv.acts ok hx.dst.1 hx.dst.2 this
theorem Inv.torn {g : Gr} {h : Gh} (inv : Inv g h) (ok : GrOk g) {x : Ms} (xi : Xi g.ms.length h x) (hx : MsOk g.ms.length x) (keep : Int) : ∃ h', Ext h h' ∧ Inv (g.torn x keep) h' := by
  obtain ⟨o, okm, e, hh⟩ := inv.here ok hx.dst.1 hx.dst.2
  have hp := ok.pair _ _ (at_get hx.dst.1 hx.dst.2)
  have base : Inv (g.anew x.dst (g.at_ x.dst).2) h := inv.again ok hx.dst.1 hx.dst.2
  unfold Gr.torn
  by_cases hs : saves ((g.at_ x.dst).1.hear x).1 (g.at_ x.dst).2 = 0
  · have ht := crash_tornT hp.vt hp.sync hs keep
    have he : crashV (saveV (g.at_ x.dst).2 ((g.at_ x.dst).1.hear x).1.term ((g.at_ x.dst).1.hear x).1.vote 0 0 ((g.at_ x.dst).1.hear x).1.log) keep = crashV (saved ((g.at_ x.dst).1.hear x).1 (g.at_ x.dst).2) keep := rfl
    rw [he] at ht
    generalize crashV (saved ((g.at_ x.dst).1.hear x).1 (g.at_ x.dst).2) keep = y at *
    rcases ht with q | q
    · refine ⟨h, .refl h, inv.anew ok hx.dst.1 hx.dst.2 (.refl _ _) inv.gi ?_⟩
      rw [q]
      have := again_of o hh
      rwa [e] at this
    · rw [hh] at q
      obtain ⟨h', b, g', a⟩ := hear_torn inv.gi o okm xi q
      rw [e] at b a
      exact ⟨h', b.ext, inv.anew ok hx.dst.1 hx.dst.2 b g' a⟩
  · have he : saved ((g.at_ x.dst).1.hear x).1 (g.at_ x.dst).2 = (g.at_ x.dst).2 := saveV_no hs
    rw [he, crash_synced hp.vt hp.sync keep]
    exact ⟨h, .refl h, base⟩
theorem Inv.propose {g : Gr} {h : Gh} (inv : Inv g h) (ok : GrOk g) {i : Int} (h1 : 1 ≤ i) (h2 : i ≤ g.ms.length) (a b : Int) : ∃ h', Ext h h' ∧ Inv (g.propose i a b).1 h' := by
  obtain ⟨o, okm, e, _⟩ := inv.here ok h1 h2
  unfold Gr.propose
  split
  · exact ⟨h, .refl h, inv⟩
  split
  · have hv := mayV_true okm.mb.ballot
    have := propose_ev inv.gi o okm (c := Gr.cmd a b) (cmd_wf (by omega) (by omega) (by omega))
    rw [e] at this
    exact inv.acts ok h1 h2 this
  · exact ⟨h, .refl h, inv⟩
theorem Inv.does {g : Gr} {h : Gh} (inv : Inv g h) (ok : GrOk g) (k a b c : Int) : ∃ h', Ext h h' ∧ Inv (g.does k a b c).1 h' := by
  unfold Gr.does
  split
  · exact ⟨h, .refl h, inv⟩
  rename_i ht
  have ht : g.there k a = 0 := by
    by_cases q : g.there k a = 0
    · exact q
    · exact (ht q).elim
  have less : ∀ (j : Nat), ∀ x ∈ (g.take j).net, x ∈ g.net := fun j x hx => List.mem_of_mem_eraseIdx hx
  split
  · obtain ⟨h1, h2⟩ := GrOk.there_member ht (by omega)
    obtain ⟨o, okm, e, _⟩ := inv.here ok h1 h2
    have := timeout_ev inv.gi o okm
    rw [e] at this
    exact inv.acts ok h1 h2 this
  split
  · obtain ⟨h1, h2⟩ := GrOk.there_member ht (by omega)
    obtain ⟨o, okm, e, _⟩ := inv.here ok h1 h2
    exact inv.acts ok h1 h2 ⟨h, .refl _ _, inv.gi, o, beat_ev o okm⟩
  split
  · obtain ⟨h1, h2⟩ := GrOk.there_member ht (by omega)
    exact inv.propose ok h1 h2 b c
  split
  · obtain ⟨h1, h2⟩ := GrOk.there_msg ht (by omega)
    exact (inv.less (less a.toNat)).hears (ok.take _) (inv.msg h2).1 (ok.msg h2)
  split
  · exact ⟨h, .refl h, inv.less (less a.toNat)⟩
  split
  · obtain ⟨h1, h2⟩ := GrOk.there_msg ht (by omega)
    refine ⟨h, .refl h, inv.less fun x hx => ?_⟩
    rcases List.mem_append.1 hx with q | q
    · exact q
    · rw [List.mem_singleton] at q
      rw [q]
      exact (inv.msg h2).2
  split
  · obtain ⟨h1, h2⟩ := GrOk.there_member ht (by omega)
    refine ⟨h, .refl h, ?_⟩
    show Inv (g.crash a b) h
    unfold Gr.crash
    rw [(ok.at_ h1 h2).1.crash0 b]
    exact inv.again ok h1 h2
  · obtain ⟨h1, h2⟩ := GrOk.there_msg ht (by have := GrOk.there_kind ht; omega)
    exact (inv.less (less a.toNat)).torn (ok.take _) (inv.msg h2).1 (ok.msg h2) b
/-- Nothing is known yet. -/
def gh0 : Gh := ⟨fun _ => 0, fun _ => [], fun _ _ => 0, fun _ _ => [], fun _ _ => [], fun _ _ => 0, fun _ => []⟩
theorem newGr_inv (n : Nat) : Inv (newGr n) gh0 := by
  refine ⟨⟨fun T q => (q rfl).elim, fun T q => (q rfl).elim, fun T q => (q rfl).elim, fun T q => (q rfl).elim, fun T q => (q rfl).elim, fun T q => (q rfl).elim, fun j T q => (q rfl).elim, fun j T q => (q rfl).elim, fun j T q => (q rfl).elim, fun j t q => absurd q (Nat.lt_irrefl 0), fun j T q => (q rfl).elim⟩, fun i p hp => ?_, fun x hx => by cases hx⟩
  unfold newGr at hp
  simp only [List.getElem?_map] at hp
  by_cases hi : i < n
  · rw [List.getElem?_range hi] at hp
    simp only [Option.map_some] at hp
    injection hp with hp
    subst hp
    refine ⟨fun k e hk => (by cases hk), fun hr => (by cases hr), rfl, fun T _ => ⟨rfl, rfl, ?_⟩, fun T j _ => ?_, fun hr => (by cases hr), fun t k hk => absurd hk (Nat.not_lt_zero k), fun hr => (by cases hr), fun hr => (by cases hr), Int.le_refl _, .inl rfl⟩
    · show (0 : Int) ≠ (i : Int) + 1
      omega
    · show (0 : Int) ≠ (i : Int) + 1
      omega
  · rw [List.getElem?_eq_none (by simp; omega)] at hp
    cases hp
/-! ### What follows -/
/-- Who leads is the one of its term. -/
theorem Inv.leader {g : Gr} {h : Gh} (inv : Inv g h) (ok : GrOk g) {i : Int} (h1 : 1 ≤ i) (h2 : i ≤ g.ms.length) (hr : (g.at_ i).1.role = 2) : h.ld (g.at_ i).1.term = i := by
  obtain ⟨o, okm, e, _⟩ := inv.here ok h1 h2
  have := (o.led hr).1
  rwa [e] at this
/-- Two logs that have an entry of one index and one term are the same up to it. -/
theorem Inv.matches {g : Gr} {h : Gh} (inv : Inv g h) (ok : GrOk g) {i j : Int} (h1 : 1 ≤ i) (h2 : i ≤ g.ms.length) (h3 : 1 ≤ j) (h4 : j ≤ g.ms.length) {k : Nat} {e f : En} (he : (g.at_ i).1.log[k]? = some e) (hf : (g.at_ j).1.log[k]? = some f) (ht : e.1 = f.1) : (g.at_ i).1.log.take (k + 1) = (g.at_ j).1.log.take (k + 1) :=
  (inv.here ok h1 h2).1.lm.same (inv.here ok h3 h4).1.lm he hf ht
theorem Inv.settled {g : Gr} {h : Gh} (inv : Inv g h) (ok : GrOk g) {i : Int} (h1 : 1 ≤ i) (h2 : i ≤ g.ms.length) : Cp g.ms.length h (g.at_ i).1.term ((g.at_ i).1.log.take (g.at_ i).1.settled.toNat) := (inv.here ok h1 h2).1.cp
theorem Inv.has {g : Gr} {h : Gh} (inv : Inv g h) (ok : GrOk g) {i : Int} (h1 : 1 ≤ i) (h2 : i ≤ g.ms.length) (hr : (g.at_ i).1.role = 2) {T : Int} {Y : List En} (c : Cp g.ms.length h T Y) (hT : T ≤ (g.at_ i).1.term) : Y.length ≤ (g.at_ i).1.log.length ∧ Y = (g.at_ i).1.log.take Y.length := by
  obtain ⟨o, okm, e, _⟩ := inv.here ok h1 h2
  obtain ⟨k1, k2, k3⟩ := o.led hr
  have := c.has inv.gi hT (by rw [k1]; have := okm.mb.id1; omega)
  rwa [k2] at this
end Go.Proofs.YthjdbmfobmnnlaaGreat
