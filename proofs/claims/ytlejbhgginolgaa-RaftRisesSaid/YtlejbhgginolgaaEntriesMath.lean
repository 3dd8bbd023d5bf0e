/-
  Logs of entries in plain terms: rising terms, which log may be, the term of an index, what is added, what is cut out.
-/
import Derived.Test.YtlejbhgginolgaaBase
namespace Go.Proofs.Ytlejbhgginolgaa
open Go.RowKit
/-- A command's six numbers; an entry: its term, and that. -/
abbrev Cm := Int × Int × Int × Int × Int × Int
abbrev En := Int × Cm
/-- An entry's cells. -/
def enV (e : En) : List Value := [.int .i64 e.1, .int .i64 e.2.1, .int .i64 e.2.2.1, .int .i64 e.2.2.2.1, .int .i64 e.2.2.2.2.1, .int .i64 e.2.2.2.2.2.1, .int .i64 e.2.2.2.2.2.2]
def ensV (es : List En) : List Value := es.flatMap enV
theorem enV_length (e : En) : (enV e).length = 7 := rfl
theorem ensV_nil : ensV [] = [] := rfl
theorem ensV_cons (e : En) (es : List En) : ensV (e :: es) = enV e ++ ensV es := rfl
theorem ensV_append (es fs : List En) : ensV (es ++ fs) = ensV es ++ ensV fs := List.flatMap_append
theorem ensV_length (es : List En) : (ensV es).length = es.length * 7 := by
  induction es with
  | nil => rfl
  | cons e es ih => rw [ensV_cons, List.length_append, ih, enV_length, List.length_cons]; omega
theorem ensV_one (es : List En) : ∀ u ∈ ensV es, u.oneCell' = true := by
  intro u hu
  obtain ⟨e, _, h⟩ := List.mem_flatMap.1 hu
  simp only [enV, List.mem_cons, List.not_mem_nil, or_false] at h
  rcases h with rfl | rfl | rfl | rfl | rfl | rfl | rfl <;> rfl
theorem ensV_take (es : List En) (k : Nat) : (ensV es).take (k * 7) = ensV (es.take k) := by
  induction es generalizing k with
  | nil => simp [ensV]
  | cons e es ih =>
    cases k with
    | zero => simp [ensV]
    | succ k =>
      rw [List.take_succ_cons, ensV_cons, ensV_cons, ← ih, show (k + 1) * 7 = (enV e).length + k * 7 by rw [enV_length]; omega, List.take_length_add_append]
theorem ensV_drop (es : List En) (k : Nat) : (ensV es).drop (k * 7) = ensV (es.drop k) := by
  induction es generalizing k with
  | nil => simp [ensV]
  | cons e es ih =>
    cases k with
    | zero => simp
    | succ k =>
      rw [List.drop_succ_cons, ensV_cons, ← ih, show (k + 1) * 7 = (enV e).length + k * 7 by rw [enV_length]; omega, List.drop_length_add_append]
theorem ensV_at {es : List En} {k j : Nat} (hk : k < es.length) (hj : j < 7) : (ensV es)[k * 7 + j]? = (enV es[k])[j]? := by
  have h1 : (ensV es).drop (k * 7) = enV es[k] ++ ensV (es.drop (k + 1)) := by
    rw [ensV_drop, List.drop_eq_getElem_cons hk, ensV_cons]
  have h2 : ((ensV es).drop (k * 7))[j]? = (ensV es)[k * 7 + j]? := List.getElem?_drop
  rw [← h2, h1, List.getElem?_append_left (by rw [enV_length]; exact hj)]
/-! ### Rising terms -/
def rising : List En → Int → Bool
  | [], _ => true
  | e :: es, f => decide (1 ≤ e.1 ∧ f ≤ e.1 ∧ e.1 ≤ 1073741824) && rising es e.1
/-- The last entry's term, or what was ahead. -/
def endT (es : List En) (f : Int) : Int := match es.getLast? with
  | none => f
  | some e => e.1
theorem endT_nil (f : Int) : endT [] f = f := rfl
theorem endT_snoc (es : List En) (e : En) (f : Int) : endT (es ++ [e]) f = e.1 := by simp [endT]
theorem endT_cons (e : En) (es : List En) (f : Int) : endT (e :: es) f = endT es e.1 := by
  unfold endT
  cases es with
  | nil => rfl
  | cons x xs => rw [List.getLast?_cons_cons, List.getLast?_eq_some_getLast (List.cons_ne_nil x xs)]
theorem rising_append (xs ys : List En) (f : Int) : rising (xs ++ ys) f = (rising xs f && rising ys (endT xs f)) := by
  induction xs generalizing f with
  | nil => simp [rising, endT_nil]
  | cons x xs ih => rw [List.cons_append, rising, rising, ih, endT_cons, Bool.and_assoc]
theorem rising_take {es : List En} {f : Int} (h : rising es f = true) (k : Nat) : rising (es.take k) f = true := by
  rw [← List.take_append_drop k es, rising_append, Bool.and_eq_true] at h
  exact h.1
theorem rising_drop {es : List En} {f : Int} (h : rising es f = true) (k : Nat) : rising (es.drop k) (endT (es.take k) f) = true := by
  rw [← List.take_append_drop k es, rising_append, Bool.and_eq_true] at h
  exact h.2
theorem endT_take {es : List En} {k : Nat} (hk : k < es.length) (f : Int) : endT (es.take (k + 1)) f = (es[k]).1 := by
  rw [List.take_add_one, List.getElem?_eq_getElem hk]
  exact endT_snoc _ _ _
theorem rising_at {es : List En} {f : Int} {k : Nat} (hk : k < es.length) (h : rising es f = true) : 1 ≤ (es[k]).1 ∧ endT (es.take k) f ≤ (es[k]).1 ∧ (es[k]).1 ≤ 1073741824 := by
  have := rising_drop h k
  rw [List.drop_eq_getElem_cons hk, rising, Bool.and_eq_true, decide_eq_true_eq] at this
  exact this.1
theorem rising_false {es : List En} {f : Int} {k : Nat} (hk : k < es.length) (h : ¬ (1 ≤ (es[k]).1 ∧ endT (es.take k) f ≤ (es[k]).1 ∧ (es[k]).1 ≤ 1073741824)) : rising es f = false := by
  cases hr : rising es f with
  | false => rfl
  | true => exact absurd (rising_at hk hr) h
theorem rising_all {es : List En} {f : Int} (h : ∀ k, (hk : k < es.length) → 1 ≤ (es[k]).1 ∧ endT (es.take k) f ≤ (es[k]).1 ∧ (es[k]).1 ≤ 1073741824) : rising es f = true := by
  induction es generalizing f with
  | nil => rfl
  | cons e es ih =>
    rw [rising, Bool.and_eq_true, decide_eq_true_eq]
    refine ⟨h 0 (by simp), ih fun k hk => ?_⟩
    have := h (k + 1) (by simp; omega)
    simpa [endT_cons] using this
/-! ### Logs: a base, its term, entries -/
def mayL (b t : Int) (es : List En) : Bool := decide (0 ≤ b ∧ b ≤ 1099511627776 ∧ 0 ≤ t ∧ t ≤ 1073741824 ∧ (b = 0 → t = 0) ∧ es.length ≤ 64) && rising es t
theorem mayL_true {b t : Int} {es : List En} (h : mayL b t es = true) : 0 ≤ b ∧ b ≤ 1099511627776 ∧ 0 ≤ t ∧ t ≤ 1073741824 ∧ (b = 0 → t = 0) ∧ es.length ≤ 64 ∧ rising es t = true := by
  unfold mayL at h
  rw [Bool.and_eq_true, decide_eq_true_eq] at h
  exact ⟨h.1.1, h.1.2.1, h.1.2.2.1, h.1.2.2.2.1, h.1.2.2.2.2.1, h.1.2.2.2.2.2, h.2⟩
theorem mayL_mk {b t : Int} {es : List En} (h1 : 0 ≤ b) (h2 : b ≤ 1099511627776) (h3 : 0 ≤ t) (h4 : t ≤ 1073741824) (h5 : b = 0 → t = 0) (h6 : es.length ≤ 64) (h7 : rising es t = true) : mayL b t es = true := by
  unfold mayL
  rw [Bool.and_eq_true, decide_eq_true_eq]
  exact ⟨⟨h1, h2, h3, h4, h5, h6⟩, h7⟩
/-- The term of an index of a log that may be: whether it is one, too. -/
def termL (b t : Int) (es : List En) (i : Int) : Int × Bool :=
  if i = b then (t, true) else if i < b ∨ b + es.length < i then (0, false) else ((es.getD (i - b - 1).toNat default).1, true)
theorem termL_at {b t : Int} {es : List En} {i : Int} (k : Nat) (hk : k ≤ es.length) (hi : i = b + k) : termL b t es i = (endT (es.take k) t, true) := by
  unfold termL
  subst hi
  cases k with
  | zero => simp [endT_nil]
  | succ k =>
    rw [if_neg (by omega), if_neg (by omega), show (b + ((k + 1 : Nat) : Int) - b - 1).toNat = k by omega, endT_take (by omega), List.getD_eq_getElem?_getD, List.getElem?_eq_getElem (by omega)]
    rfl
theorem termL_out {b t : Int} {es : List En} {i : Int} (h : i < b ∨ b + es.length < i) : termL b t es i = (0, false) := by
  unfold termL
  rw [if_neg (by omega), if_pos h]
def newerB (i t k u : Int) : Bool := decide (t > u ∨ (t = u ∧ i ≥ k))
theorem newerB_total {i t k u : Int} (h : newerB i t k u = false) : newerB k u i t = true := by
  unfold newerB at *
  simp only [decide_eq_false_iff_not, decide_eq_true_eq] at *
  omega
theorem newerB_both {i t k u : Int} (h1 : newerB i t k u = true) (h2 : newerB k u i t = true) : i = k ∧ t = u := by
  unfold newerB at *
  simp only [decide_eq_true_eq] at *
  omega
theorem newerB_trans {i t k u m v : Int} (h1 : newerB i t k u = true) (h2 : newerB k u m v = true) : newerB i t m v = true := by
  unfold newerB at *
  simp only [decide_eq_true_eq] at *
  omega
theorem newerB_refl (i t : Int) : newerB i t i t = true := by
  unfold newerB
  simp
/-! ### What is added -/
/-- Entries behind the first so many of others: what is there of the same term stays; from the first other one on all is new. -/
def mergeL (es : List En) : Nat → List En → List En
  | _, [] => es
  | k, m :: ms => if k < es.length ∧ (es.getD k default).1 = m.1 then mergeL es (k + 1) ms else es.take k ++ m :: ms
theorem mergeL_new {es : List En} {k : Nat} {m : En} {ms : List En} (h : ¬ (k < es.length ∧ (es.getD k default).1 = m.1)) : mergeL es k (m :: ms) = es.take k ++ m :: ms := by rw [mergeL, if_neg h]
theorem mergeL_same {es : List En} {k : Nat} {m : En} {ms : List En} (h : k < es.length ∧ (es.getD k default).1 = m.1) : mergeL es k (m :: ms) = mergeL es (k + 1) ms := by rw [mergeL, if_pos h]
theorem mergeL_end (es : List En) (ms : List En) : mergeL es es.length ms = es ++ ms := by
  cases ms with
  | nil => simp [mergeL]
  | cons m ms => rw [mergeL_new (by omega), List.take_length]
/-- The document's step: what is there goes as soon as one of another term comes. -/
theorem mergeL_step {es : List En} {k : Nat} {m : En} {ms : List En} (hk : k ≤ es.length) (h : ¬ (k < es.length ∧ (es.getD k default).1 = m.1)) : mergeL es k (m :: ms) = mergeL (es.take k ++ [m]) (k + 1) ms := by
  have hl : (es.take k ++ [m]).length = k + 1 := by simp; omega
  rw [mergeL_new h, ← hl, mergeL_end]
  simp
theorem mergeL_facts (es : List En) (ms : List En) (k : Nat) (hk : k ≤ es.length) :
    k + ms.length ≤ (mergeL es k ms).length ∧ (mergeL es k ms).take k = es.take k ∧ (∀ i, (hi : i < ms.length) → ((mergeL es k ms).getD (k + i) default).1 = (ms[i]).1) ∧
      (∀ f, rising es f = true → rising ms (endT (es.take k) f) = true → rising (mergeL es k ms) f = true) ∧ (mergeL es k ms).length ≤ es.length + ms.length := by
  induction ms generalizing k with
  | nil => exact ⟨by simpa [mergeL] using hk, by simp [mergeL], fun i hi => by simp at hi, fun f h _ => by simpa [mergeL] using h, by simp [mergeL]⟩
  | cons m ms ih =>
    by_cases h : k < es.length ∧ (es.getD k default).1 = m.1
    · obtain ⟨h1, h2, h3, h4, h5⟩ := ih (k + 1) h.1
      rw [mergeL_same h]
      have hm : es[k].1 = m.1 := by
        have := h.2
        rwa [List.getD_eq_getElem?_getD, List.getElem?_eq_getElem h.1] at this
      refine ⟨by simp at h1 ⊢; omega, ?_, fun i hi => ?_, fun f hf hr => h4 f hf ?_, by simp at h5 ⊢; omega⟩
      · have := congrArg (List.take k) h2
        simpa [List.take_take, Nat.min_eq_left (Nat.le_succ k)] using this
      · cases i with
        | zero =>
          have h6 : (mergeL es (k + 1) ms)[k]? = es[k]? := by
            have := congrArg (fun l => l[k]?) h2
            simpa [List.getElem?_take] using this
          have h7 : ((mergeL es (k + 1) ms).getD k default).1 = es[k].1 := by rw [List.getD_eq_getElem?_getD, h6, List.getElem?_eq_getElem h.1]; rfl
          exact h7.trans hm
        | succ i => have := h3 i (by simp at hi; omega); rw [show k + (i + 1) = k + 1 + i by omega, this]; rfl
      · rw [endT_take h.1, hm]
        rw [rising, Bool.and_eq_true] at hr
        exact hr.2
    · rw [mergeL_new h]
      have hl : (es.take k).length = k := by rw [List.length_take]; omega
      refine ⟨by simp; omega, by rw [List.take_append_of_le_length (by omega), List.take_take, Nat.min_self], fun i hi => ?_, fun f hf hr => ?_, by simp; omega⟩
      · rw [List.getD_eq_getElem?_getD, List.getElem?_append_right (by omega), hl, Nat.add_sub_cancel_left, List.getElem?_eq_getElem hi]
        rfl
      · rw [rising_append, rising_take hf, hr]
        rfl
/-- What is there in full leaves all as it is. -/
theorem mergeL_there {es : List En} : ∀ {ms : List En} {k : Nat}, k + ms.length ≤ es.length → (∀ i, (hi : i < ms.length) → (es.getD (k + i) default).1 = (ms[i]).1) → mergeL es k ms = es
  | [], _, _, _ => rfl
  | m :: ms, k, h, hm => by
    simp only [List.length_cons] at h
    rw [mergeL_same (show k < es.length ∧ (es.getD k default).1 = m.1 from ⟨by omega, hm 0 (by simp)⟩)]
    exact mergeL_there (by omega) fun i hi => by have := hm (i + 1) (by simp; omega); rw [show k + 1 + i = k + (i + 1) by omega, this]; rfl
theorem mergeL_again {es : List En} {k : Nat} (ms : List En) (hk : k ≤ es.length) : mergeL (mergeL es k ms) k ms = mergeL es k ms :=
  mergeL_there (mergeL_facts es ms k hk).1 (mergeL_facts es ms k hk).2.2.1
/-- The code's way: skip what is there, then put the rest behind. -/
theorem mergeL_skip {es : List En} {k : Nat} (ms : List En) (j : Nat) (hj : j ≤ ms.length) (hk : k + j ≤ es.length) (hm : ∀ i, (hi : i < j) → (es.getD (k + i) default).1 = (ms.getD i default).1) : mergeL es k ms = mergeL es (k + j) (ms.drop j) := by
  induction j with
  | zero => rfl
  | succ j ih =>
    rw [ih (by omega) (by omega) fun i hi => hm i (by omega), List.drop_eq_getElem_cons (show j < ms.length by omega), mergeL_same ⟨by omega, ?_⟩]
    · rfl
    · have := hm j (by omega)
      rwa [show ms.getD j default = ms[j] by rw [List.getD_eq_getElem?_getD, List.getElem?_eq_getElem (show j < ms.length by omega)]; rfl] at this
/-! ### Some entries -/
def fromL (b : Int) (es : List En) (i most : Int) : List En := if i ≤ b ∨ b + es.length < i ∨ most ≤ 0 then [] else (es.drop (i - b - 1).toNat).take most.toNat
theorem fromL_none {b : Int} {es : List En} {i most : Int} (h : i ≤ b ∨ b + es.length < i ∨ most ≤ 0) : fromL b es i most = [] := if_pos h
theorem fromL_some {b : Int} {es : List En} {i most : Int} (h : ¬ (i ≤ b ∨ b + es.length < i ∨ most ≤ 0)) : fromL b es i most = (es.drop (i - b - 1).toNat).take most.toNat := if_neg h
end Go.Proofs.Ytlejbhgginolgaa
