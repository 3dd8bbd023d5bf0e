/-
  BE: several texts in one.
-/
import Derived.Test.YtnbljcbfnplbaaaBA
/-
  Logs of entries in plain terms: rising terms, which log may be, the term of an index, what is added, what is cut out.
-/
namespace Go.Proofs.Ytnbljcbfnplbaaa
open Go.RowKit
/-- A command's six numbers; an entry: its term, and that. -/
abbrev Cm := Int × Int × Int × Int × Int × Int
abbrev En := Int × Cm
/-- An entry's cells. -/
def enV (e : En) : List Value := [.int .i64 e.1, .int .i64 e.2.1, .int .i64 e.2.2.1, .int .i64 e.2.2.2.1, .int .i64 e.2.2.2.2.1, .int .i64 e.2.2.2.2.2.1, .int .i64 e.2.2.2.2.2.2]
def ensV (es : List En) : List Value := es.flatMap enV
theorem enV_length (e : En) : (enV e).length = 7 := rfl
theorem ensV_nil : ensV [] = [] := rfl
theorem ensV_cons (e : En) (es : List En) : ensV (e :: es) = enV e ++ ensV es := rfl
theorem ensV_append (es fs : List En) : ensV (es ++ fs) = ensV es ++ ensV fs := List.flatMap_append
theorem ensV_length (es : List En) : (ensV es).length = es.length * 7 := by
  induction es with
  | nil => rfl
  | cons e es ih => rw [ensV_cons, List.length_append, ih, enV_length, List.length_cons]; omega
theorem ensV_one (es : List En) : ∀ u ∈ ensV es, u.oneCell' = true := by
  intro u hu
  obtain ⟨e, _, h⟩ := List.mem_flatMap.1 hu
  simp only [enV, List.mem_cons, List.not_mem_nil, or_false] at h
  rcases h with rfl | rfl | rfl | rfl | rfl | rfl | rfl <;> rfl
theorem ensV_take (es : List En) (k : Nat) : (ensV es).take (k * 7) = ensV (es.take k) := by
  induction es generalizing k with
  | nil => simp [ensV]
  | cons e es ih =>
    cases k with
    | zero => simp [ensV]
    | succ k =>
      rw [List.take_succ_cons, ensV_cons, ensV_cons, ← ih, show (k + 1) * 7 = (enV e).length + k * 7 by rw [enV_length]; omega, List.take_length_add_append]
theorem ensV_drop (es : List En) (k : Nat) : (ensV es).drop (k * 7) = ensV (es.drop k) := by
  induction es generalizing k with
  | nil => simp [ensV]
  | cons e es ih =>
    cases k with
    | zero => simp
    | succ k =>
      rw [List.drop_succ_cons, ensV_cons, ← ih, show (k + 1) * 7 = (enV e).length + k * 7 by rw [enV_length]; omega, List.drop_length_add_append]
theorem ensV_at {es : List En} {k j : Nat} (hk : k < es.length) (hj : j < 7) : (ensV es)[k * 7 + j]? = (enV es[k])[j]? := by
  have h1 : (ensV es).drop (k * 7) = enV es[k] ++ ensV (es.drop (k + 1)) := by
    rw [ensV_drop, List.drop_eq_getElem_cons hk, ensV_cons]
  have h2 : ((ensV es).drop (k * 7))[j]? = (ensV es)[k * 7 + j]? := List.getElem?_drop
  rw [← h2, h1, List.getElem?_append_left (by rw [enV_length]; exact hj)]
/-! ### Rising terms -/
def rising : List En → Int → Bool
  | [], _ => true
  | e :: es, f => decide (1 ≤ e.1 ∧ f ≤ e.1 ∧ e.1 ≤ 1073741824) && rising es e.1
/-- The last entry's term, or what was ahead. -/
def endT (es : List En) (f : Int) : Int := match es.getLast? with
  | none => f
  | some e => e.1
theorem endT_nil (f : Int) : endT [] f = f := rfl
theorem endT_snoc (es : List En) (e : En) (f : Int) : endT (es ++ [e]) f = e.1 := by simp [endT]
theorem endT_cons (e : En) (es : List En) (f : Int) : endT (e :: es) f = endT es e.1 := by
  unfold endT
  cases es with
  | nil => rfl
  | cons x xs => rw [List.getLast?_cons_cons, List.getLast?_eq_some_getLast (List.cons_ne_nil x xs)]
theorem rising_append (xs ys : List En) (f : Int) : rising (xs ++ ys) f = (rising xs f && rising ys (endT xs f)) := by
  induction xs generalizing f with
  | nil => simp [rising, endT_nil]
  | cons x xs ih => rw [List.cons_append, rising, rising, ih, endT_cons, Bool.and_assoc]
theorem rising_take {es : List En} {f : Int} (h : rising es f = true) (k : Nat) : rising (es.take k) f = true := by
  rw [← List.take_append_drop k es, rising_append, Bool.and_eq_true] at h
  exact h.1
theorem rising_drop {es : List En} {f : Int} (h : rising es f = true) (k : Nat) : rising (es.drop k) (endT (es.take k) f) = true := by
  rw [← List.take_append_drop k es, rising_append, Bool.and_eq_true] at h
  exact h.2
theorem endT_take {es : List En} {k : Nat} (hk : k < es.length) (f : Int) : endT (es.take (k + 1)) f = (es[k]).1 := by
  rw [List.take_add_one, List.getElem?_eq_getElem hk]
  exact endT_snoc _ _ _
theorem rising_at {es : List En} {f : Int} {k : Nat} (hk : k < es.length) (h : rising es f = true) : 1 ≤ (es[k]).1 ∧ endT (es.take k) f ≤ (es[k]).1 ∧ (es[k]).1 ≤ 1073741824 := by
  have := rising_drop h k
  rw [List.drop_eq_getElem_cons hk, rising, Bool.and_eq_true, decide_eq_true_eq] at this
  exact this.1
theorem rising_false {es : List En} {f : Int} {k : Nat} (hk : k < es.length) (h : ¬ (1 ≤ (es[k]).1 ∧ endT (es.take k) f ≤ (es[k]).1 ∧ (es[k]).1 ≤ 1073741824)) : rising es f = false := by
  cases hr : rising es f with
  | false => rfl
  | true => exact absurd (rising_at hk hr) h
theorem rising_all {es : List En} {f : Int} (h : ∀ k, (hk : k < es.length) → 1 ≤ (es[k]).1 ∧ endT (es.take k) f ≤ (es[k]).1 ∧ (es[k]).1 ≤ 1073741824) : rising es f = true := by
  induction es generalizing f with
  | nil => rfl
  | cons e es ih =>
    rw [rising, Bool.and_eq_true, decide_eq_true_eq]
    refine ⟨h 0 (by simp), ih fun k hk => ?_⟩
    have := h (k + 1) (by simp; omega)
    simpa [endT_cons] using this
/-! ### Logs: a base, its term, entries -/
def mayL (b t : Int) (es : List En) : Bool := decide (0 ≤ b ∧ b ≤ 1099511627776 ∧ 0 ≤ t ∧ t ≤ 1073741824 ∧ (b = 0 → t = 0) ∧ es.length ≤ 64) && rising es t
theorem mayL_true {b t : Int} {es : List En} (h : mayL b t es = true) : 0 ≤ b ∧ b ≤ 1099511627776 ∧ 0 ≤ t ∧ t ≤ 1073741824 ∧ (b = 0 → t = 0) ∧ es.length ≤ 64 ∧ rising es t = true := by
  unfold mayL at h
  rw [Bool.and_eq_true, decide_eq_true_eq] at h
  exact ⟨h.1.1, h.1.2.1, h.1.2.2.1, h.1.2.2.2.1, h.1.2.2.2.2.1, h.1.2.2.2.2.2, h.2⟩
theorem mayL_mk {b t : Int} {es : List En} (h1 : 0 ≤ b) (h2 : b ≤ 1099511627776) (h3 : 0 ≤ t) (h4 : t ≤ 1073741824) (h5 : b = 0 → t = 0) (h6 : es.length ≤ 64) (h7 : rising es t = true) : mayL b t es = true := by
  unfold mayL
  rw [Bool.and_eq_true, decide_eq_true_eq]
  exact ⟨⟨h1, h2, h3, h4, h5, h6⟩, h7⟩
/-- The term of an index of a log that may be: whether it is one, too. -/
def termL (b t : Int) (es : List En) (i : Int) : Int × Bool :=
  if i = b then (t, true) else if i < b ∨ b + es.length < i then (0, false) else ((es.getD (i - b - 1).toNat default).1, true)
theorem termL_at {b t : Int} {es : List En} {i : Int} (k : Nat) (hk : k ≤ es.length) (hi : i = b + k) : termL b t es i = (endT (es.take k) t, true) := by
  unfold termL
  subst hi
  cases k with
  | zero => simp [endT_nil]
  | succ k =>
    rw [if_neg (by omega), if_neg (by omega), show (b + ((k + 1 : Nat) : Int) - b - 1).toNat = k by omega, endT_take (by omega), List.getD_eq_getElem?_getD, List.getElem?_eq_getElem (by omega)]
    rfl
theorem termL_out {b t : Int} {es : List En} {i : Int} (h : i < b ∨ b + es.length < i) : termL b t es i = (0, false) := by
  unfold termL
  rw [if_neg (by omega), if_pos h]
def newerB (i t k u : Int) : Bool := decide (t > u ∨ (t = u ∧ i ≥ k))
theorem newerB_total {i t k u : Int} (h : newerB i t k u = false) : newerB k u i t = true := by
  unfold newerB at *
  simp only [decide_eq_false_iff_not, decide_eq_true_eq] at *
  omega
theorem newerB_both {i t k u : Int} (h1 : newerB i t k u = true) (h2 : newerB k u i t = true) : i = k ∧ t = u := by
  unfold newerB at *
  simp only [decide_eq_true_eq] at *
  omega
theorem newerB_trans {i t k u m v : Int} (h1 : newerB i t k u = true) (h2 : newerB k u m v = true) : newerB i t m v = true := by
  unfold newerB at *
  simp only [decide_eq_true_eq] at *
  omega
theorem newerB_refl (i t : Int) : newerB i t i t = true := by
  unfold newerB
  simp
/-! ### What is added -/
/-- Entries behind the first so many of others: what is there of the same term stays; from the first other one on all is new. -/
def mergeL (es : List En) : Nat → List En → List En
  | _, [] => es
  | k, m :: ms => if k < es.length ∧ (es.getD k default).1 = m.1 then mergeL es (k + 1) ms else es.take k ++ m :: ms
theorem mergeL_new {es : List En} {k : Nat} {m : En} {ms : List En} (h : ¬ (k < es.length ∧ (es.getD k default).1 = m.1)) : mergeL es k (m :: ms) = es.take k ++ m :: ms := by rw [mergeL, if_neg h]
theorem mergeL_same {es : List En} {k : Nat} {m : En} {ms : List En} (h : k < es.length ∧ (es.getD k default).1 = m.1) : mergeL es k (m :: ms) = mergeL es (k + 1) ms := by rw [mergeL, if_pos h]
theorem mergeL_end (es : List En) (ms : List En) : mergeL es es.length ms = es ++ ms := by
  cases ms with
  | nil => simp [mergeL]
  | cons m ms => rw [mergeL_new (by omega), List.take_length]
/-- The document's step: what is there goes as soon as one of another term comes. -/
theorem mergeL_step {es : List En} {k : Nat} {m : En} {ms : List En} (hk : k ≤ es.length) (h : ¬ (k < es.length ∧ (es.getD k default).1 = m.1)) : mergeL es k (m :: ms) = mergeL (es.take k ++ [m]) (k + 1) ms := by
  have hl : (es.take k ++ [m]).length = k + 1 := by simp; omega
  rw [mergeL_new h, ← hl, mergeL_end]
  simp
theorem mergeL_facts (es : List En) (ms : List En) (k : Nat) (hk : k ≤ es.length) :
    k + ms.length ≤ (mergeL es k ms).length ∧ (mergeL es k ms).take k = es.take k ∧ (∀ i, (hi : i < ms.length) → ((mergeL es k ms).getD (k + i) default).1 = (ms[i]).1) ∧
      (∀ f, rising es f = true → rising ms (endT (es.take k) f) = true → rising (mergeL es k ms) f = true) ∧ (mergeL es k ms).length ≤ es.length + ms.length := by
  induction ms generalizing k with
  | nil => exact ⟨by simpa [mergeL] using hk, by simp [mergeL], fun i hi => by simp at hi, fun f h _ => by simpa [mergeL] using h, by simp [mergeL]⟩
  | cons m ms ih =>
    by_cases h : k < es.length ∧ (es.getD k default).1 = m.1
    · obtain ⟨h1, h2, h3, h4, h5⟩ := ih (k + 1) h.1
      rw [mergeL_same h]
      have hm : es[k].1 = m.1 := by
        have := h.2
        rwa [List.getD_eq_getElem?_getD, List.getElem?_eq_getElem h.1] at this
      refine ⟨by simp at h1 ⊢; omega, ?_, fun i hi => ?_, fun f hf hr => h4 f hf ?_, by simp at h5 ⊢; omega⟩
      · have := congrArg (List.take k) h2
        simpa [List.take_take, Nat.min_eq_left (Nat.le_succ k)] using this
      · cases i with
        | zero =>
          have h6 : (mergeL es (k + 1) ms)[k]? = es[k]? := by
            have := congrArg (fun l => l[k]?) h2
            simpa [List.getElem?_take] using this
          have h7 : ((mergeL es (k + 1) ms).getD k default).1 = es[k].1 := by rw [List.getD_eq_getElem?_getD, h6, List.getElem?_eq_getElem h.1]; rfl
          exact h7.trans hm
        | succ i => have := h3 i (by simp at hi; omega); rw [show k + (i + 1) = k + 1 + i by omega, this]; rfl
      · rw [endT_take h.1, hm]
        rw [rising, Bool.and_eq_true] at hr
        exact hr.2
    · rw [mergeL_new h]
      have hl : (es.take k).length = k := by rw [List.length_take]; omega
      refine ⟨by simp; omega, by rw [List.take_append_of_le_length (by omega), List.take_take, Nat.min_self], fun i hi => ?_, fun f hf hr => ?_, by simp; omega⟩
      · rw [List.getD_eq_getElem?_getD, List.getElem?_append_right (by omega), hl, Nat.add_sub_cancel_left, List.getElem?_eq_getElem hi]
        rfl
      · rw [rising_append, rising_take hf, hr]
        rfl
/-- What is there in full leaves all as it is. -/
theorem mergeL_there {es : List En} : ∀ {ms : List En} {k : Nat}, k + ms.length ≤ es.length → (∀ i, (hi : i < ms.length) → (es.getD (k + i) default).1 = (ms[i]).1) → mergeL es k ms = es
  | [], _, _, _ => rfl
  | m :: ms, k, h, hm => by
    simp only [List.length_cons] at h
    rw [mergeL_same (show k < es.length ∧ (es.getD k default).1 = m.1 from ⟨by omega, hm 0 (by simp)⟩)]
    exact mergeL_there (by omega) fun i hi => by have := hm (i + 1) (by simp; omega); rw [show k + 1 + i = k + (i + 1) by omega, this]; rfl
theorem mergeL_again {es : List En} {k : Nat} (ms : List En) (hk : k ≤ es.length) : mergeL (mergeL es k ms) k ms = mergeL es k ms :=
  mergeL_there (mergeL_facts es ms k hk).1 (mergeL_facts es ms k hk).2.2.1
/-- The code's way: skip what is there, then put the rest behind. -/
theorem mergeL_skip {es : List En} {k : Nat} (ms : List En) (j : Nat) (hj : j ≤ ms.length) (hk : k + j ≤ es.length) (hm : ∀ i, (hi : i < j) → (es.getD (k + i) default).1 = (ms.getD i default).1) : mergeL es k ms = mergeL es (k + j) (ms.drop j) := by
  induction j with
  | zero => rfl
  | succ j ih =>
    rw [ih (by omega) (by omega) fun i hi => hm i (by omega), List.drop_eq_getElem_cons (show j < ms.length by omega), mergeL_same ⟨by omega, ?_⟩]
    · rfl
    · have := hm j (by omega)
      rwa [show ms.getD j default = ms[j] by rw [List.getD_eq_getElem?_getD, List.getElem?_eq_getElem (show j < ms.length by omega)]; rfl] at this
/-! ### Some entries -/
def fromL (b : Int) (es : List En) (i most : Int) : List En := if i ≤ b ∨ b + es.length < i ∨ most ≤ 0 then [] else (es.drop (i - b - 1).toNat).take most.toNat
theorem fromL_none {b : Int} {es : List En} {i most : Int} (h : i ≤ b ∨ b + es.length < i ∨ most ≤ 0) : fromL b es i most = [] := if_pos h
theorem fromL_some {b : Int} {es : List En} {i most : Int} (h : ¬ (i ≤ b ∨ b + es.length < i ∨ most ≤ 0)) : fromL b es i most = (es.drop (i - b - 1).toNat).take most.toNat := if_neg h
end Go.Proofs.Ytnbljcbfnplbaaa

/-
  Layer 4: entries.rising.
-/
namespace Go.Proofs.Ytnbljcbfnplbaaa
open Go.RowKit
set_option linter.unusedVariables false
/-- An entry of a row, cell by cell. -/
theorem entry_at {w : World} {a : Option Addr} {es : List En} (hr : RowAt w a (ensV es)) {k : Nat} (hk : k < es.length) :
    ∃ b off, a = some ⟨b, off, none⟩ ∧ b < w.heap.size ∧ ∀ j u, (enV es[k])[j]? = some u → w.cell? ⟨b, off + (k * 7 + j), none⟩ = some u := by
  rcases hr with h | ⟨b, off, ha, hlt, hc⟩
  · have := congrArg List.length h
    rw [ensV_length] at this
    simp at this
    omega
  · refine ⟨b, off, ha, hlt, fun j u hj => hc _ _ ?_⟩
    have hj7 : j < 7 := by
      rcases Nat.lt_or_ge j 7 with h | h
      · exact h
      · rw [List.getElem?_eq_none (by rw [enV_length]; exact h)] at hj; cases hj
    rw [ensV_at hk hj7]; exact hj
theorem entry_cells {w : World} {a : Option Addr} {es : List En} (hr : RowAt w a (ensV es)) {k : Nat} (hk : k < es.length) :
    ∃ b off, a = some ⟨b, off, none⟩ ∧ b < w.heap.size ∧ w.cell? ⟨b, off + k * 7, none⟩ = some (.int .i64 (es[k]).1) ∧ w.cell? ⟨b, off + k * 7 + 1, none⟩ = some (.int .i64 (es[k]).2.1) ∧ w.cell? ⟨b, off + k * 7 + 2, none⟩ = some (.int .i64 (es[k]).2.2.1) ∧
      w.cell? ⟨b, off + k * 7 + 3, none⟩ = some (.int .i64 (es[k]).2.2.2.1) ∧ w.cell? ⟨b, off + k * 7 + 4, none⟩ = some (.int .i64 (es[k]).2.2.2.2.1) ∧ w.cell? ⟨b, off + k * 7 + 5, none⟩ = some (.int .i64 (es[k]).2.2.2.2.2.1) ∧ w.cell? ⟨b, off + k * 7 + 6, none⟩ = some (.int .i64 (es[k]).2.2.2.2.2.2) := by
  obtain ⟨b, off, ha, hlt, hc⟩ := entry_at hr hk
  have e : ∀ j, off + k * 7 + j = off + (k * 7 + j) := fun j => by omega
  refine ⟨b, off, ha, hlt, ?_⟩
  rw [e 1, e 2, e 3, e 4, e 5, e 6]
  exact ⟨hc 0 _ rfl, hc 1 _ rfl, hc 2 _ rfl, hc 3 _ rfl, hc 4 _ rfl, hc 5 _ rfl, hc 6 _ rfl⟩
theorem rising_go {es : List En} {f : Int} {k : Nat} (hk : k < es.length) (h1 : 1 ≤ (es[k]).1) (h2 : endT (es.take k) f ≤ (es[k]).1) (h3 : (es[k]).1 ≤ 1073741824) (h : rising (es.take k) f = true) : rising (es.take (k + 1)) f = true := by
  rw [List.take_add_one, List.getElem?_eq_getElem hk, rising_append, h]
  simp [rising, h1, h2, h3]
theorem wrap_next {k n : Nat} (h : k < n) (hm : n ≤ maxLen) : wrap64 ((k : Int) + 1) = ((k + 1 : Nat) : Int) := by
  unfold maxLen at hm
  unfold wrap64
  omega
theorem measure_next {k n : Nat} (hw : wrap64 ((k : Int) + 1) = ((k + 1 : Nat) : Int)) (h : k < n) : n - (intOf (.int .i64 (wrap64 ((k : Int) + 1)))).toNat < n - (intOf (.int .i64 (k : Int))).toNat := by
  rw [hw]
  show n - (((k + 1 : Nat) : Int)).toNat < n - ((k : Int)).toNat
  omega
set_option maxHeartbeats 1600000 in
theorem rising_any (a : Option Addr) (cap : Nat) (es : List En) (f : Int) (w : World) (hr : RowAt w a (ensV es)) (hm : es.length ≤ maxLen) :
    Calls Try.prog 39 #[.slice a es.length cap, .int .i64 f] w fun e w' => e = .returned (.bool (rising es f)) ∧ Below w.heap.size w w' := by
  have HM := Lib.hid hm
  clear hm
  go_enter Try.func39, Try.ntmps39
  go_wp2
  go_loopw [1, 9] (fun v i wr => ∃ (k : Nat) (g : Int), k ≤ es.length ∧ i = .int .i64 k ∧ v = .int .i64 g ∧ Hid (endT (es.take k) f = g) ∧ Hid (rising (es.take k) f = true) ∧ Below w.heap.size w wr) (fun _ i _ => es.length - (intOf i).toNat)
  case atStart => exact ⟨0, f, by omega, rfl, rfl, rfl, rfl, Below.refl _ _⟩
  case round =>
    obtain ⟨k, g, hk, rfl, rfl, HG, HR, hb⟩ := hrel
    by_cases hlt : k < es.length
    · obtain ⟨b, off, rfl, hblt, hc⟩ := entry_cells (hr.below hb) hlt
      have HA : Hid (es[k]? = some (es[k]'hlt)) := List.getElem?_eq_getElem hlt
      have HF : Hid (¬ (1 ≤ (es[k]).1 ∧ g ≤ (es[k]).1 ∧ (es[k]).1 ≤ 1073741824) → rising es f = false) := fun h => rising_false hlt (by rw [HG.out]; exact h)
      have HT : Hid (1 ≤ (es[k]).1 ∧ g ≤ (es[k]).1 ∧ (es[k]).1 ≤ 1073741824 → rising (es.take (k + 1)) f = true) := fun h => rising_go hlt h.1 (by rw [HG.out]; exact h.2.1) h.2.2 HR.out
      have HE : Hid (endT (es.take (k + 1)) f = (es[k]).1) := endT_take hlt f
      generalize (es[k]'hlt) = x at hc HA HF HT HE
      obtain ⟨t, c1, c2, c3, c4, c5, c6⟩ := x
      simp only at hc HA HF HT HE
      obtain ⟨hc0, hc1, hc2, hc3, hc4, hc5, hc6⟩ := hc
      have hk0 : (0 : Int) ≤ (k : Int) := by omega
      have HW : Hid (wrap64 ((k : Int) + 1) = ((k + 1 : Nat) : Int)) := wrap_next hlt HM.out
      have hk1 : (k : Int) < (es.length : Int) := by omega
      by_cases hg : 1 ≤ g
      · by_cases h1 : t < g
        · have HO := Lib.hid (HF.out (by omega))
          clear HF HT HE HA
          go_wp2
          go_ret
          exact ⟨by rw [HO.out]; rfl, hb.alloc hb.size _⟩
        by_cases h2 : 1073741824 < t
        · have HO := Lib.hid (HF.out (by omega))
          clear HF HT HE HA
          go_wp2
          go_ret
          exact ⟨by rw [HO.out]; rfl, hb.alloc hb.size _⟩
        have HT2 := Lib.hid (HT.out (by omega))
        clear HF HT HA
        go_wp2
        go_roundw
        case rel => exact ⟨k + 1, t, by omega, by rw [HW.out], rfl, HE, HT2, hb.alloc hb.size _⟩
        case measure => exact measure_next HW.out hlt
      · by_cases h1 : t < 1
        · have HO := Lib.hid (HF.out (by omega))
          clear HF HT HE HA
          go_wp2
          go_ret
          exact ⟨by rw [HO.out]; rfl, hb.alloc hb.size _⟩
        by_cases h2 : 1073741824 < t
        · have HO := Lib.hid (HF.out (by omega))
          clear HF HT HE HA
          go_wp2
          go_ret
          exact ⟨by rw [HO.out]; rfl, hb.alloc hb.size _⟩
        have HT2 := Lib.hid (HT.out (by omega))
        clear HF HT HA
        go_wp2
        go_roundw
        case rel => exact ⟨k + 1, t, by omega, by rw [HW.out], rfl, HE, HT2, hb.alloc hb.size _⟩
        case measure => exact measure_next HW.out hlt
    · have hek : k = es.length := by omega
      have HO : Hid (rising es f = true) := by have := HR.out; rwa [hek, List.take_length] at this
      clear hek
      go_wp2
      go_ret
      exact ⟨by rw [HO.out]; rfl, hb⟩
end Go.Proofs.Ytnbljcbfnplbaaa

/-
  Layer 4: which log may be.
-/
namespace Go.Proofs.Ytnbljcbfnplbaaa
open Go.RowKit
set_option linter.unusedVariables false
/-- A log that came in, or that is the call's own. -/
structure LogIn (w : World) (a : Option Addr) (cap : Nat) (es : List En) : Prop where
  row : RowAt w a (ensV es)
  cap : es.length ≤ cap
  none_ : a = none → es.length = 0
  max : es.length ≤ maxLen
theorem LogIn.below {w w' : World} {a : Option Addr} {cap : Nat} {es : List En} (h : LogIn w a cap es) (hb : Below w.heap.size w w') : LogIn w' a cap es := ⟨h.row.below hb, h.cap, h.none_, h.max⟩
abbrev logV (b t : Int) (a : Option Addr) (n cap : Nat) : Value := .agg #[.int .i64 b, .int .i64 t, .slice a n cap]
theorem may_no {b t : Int} {es : List En} (h : ¬ (0 ≤ b ∧ b ≤ 1099511627776 ∧ 0 ≤ t ∧ t ≤ 1073741824 ∧ (b = 0 → t = 0) ∧ es.length ≤ 64)) : mayL b t es = false := by
  cases hm : mayL b t es with
  | false => rfl
  | true => obtain ⟨h1, h2, h3, h4, h5, h6, _⟩ := mayL_true hm; exact absurd ⟨h1, h2, h3, h4, h5, h6⟩ h
theorem may_yes {b t : Int} {es : List En} (h : 0 ≤ b ∧ b ≤ 1099511627776 ∧ 0 ≤ t ∧ t ≤ 1073741824 ∧ (b = 0 → t = 0) ∧ es.length ≤ 64) : mayL b t es = rising es t := by
  unfold mayL
  rw [decide_eq_true h]
  rfl
/-- A block of three cells that was made ahead of what followed. -/
theorem three_cells {w w1 : World} {x y z : Value} {t : TypeId} (hb : Below (w.alloc (.cells #[x, y, z] t)).heap.size (w.alloc (.cells #[x, y, z] t)) w1) :
    w1.cell? ⟨w.heap.size, 0, none⟩ = some x ∧ w1.cell? ⟨w.heap.size, 1, none⟩ = some y ∧ w1.cell? ⟨w.heap.size, 2, none⟩ = some z ∧ w1.frozen? ⟨w.heap.size, 0, none⟩ = false ∧ w1.frozen? ⟨w.heap.size, 1, none⟩ = false ∧ w1.frozen? ⟨w.heap.size, 2, none⟩ = false ∧ w.heap.size < w1.heap.size := by
  have hs : w.heap.size < (w.alloc (.cells #[x, y, z] t)).heap.size := by simp
  have e : ∀ i, w1.cell? ⟨w.heap.size, i, none⟩ = (#[x, y, z] : Array Value)[i]? := fun i => by
    rw [hb.cell (p := ⟨w.heap.size, i, none⟩) hs]
    exact cell_of_row _ _ _ _ _ (0, 0) (heap_alloc_new w _)
  have g : ∀ i, w1.frozen? ⟨w.heap.size, i, none⟩ = false := fun i => by
    rw [hb.frozen (p := ⟨w.heap.size, i, none⟩) hs]
    exact frozen_of_row _ _ _ _ _ (heap_alloc_new w _)
  exact ⟨e 0, e 1, e 2, g 0, g 1, g 2, Nat.lt_of_lt_of_le hs hb.size⟩
set_option maxHeartbeats 1600000 in
theorem may_any (b t : Int) (a : Option Addr) (cap : Nat) (es : List En) (w : World) (hl : LogIn w a cap es) :
    Calls Try.prog 24 #[logV b t a es.length cap] w fun e w' => e = .returned (.bool (mayL b t es)) ∧ Below w.heap.size w w' := by
  by_cases h0 : 0 ≤ b ∧ b ≤ 1099511627776 ∧ 0 ≤ t ∧ t ≤ 1073741824 ∧ (b = 0 → t = 0) ∧ es.length ≤ 64
  · rw [may_yes h0]
    obtain ⟨h1, h2, h3, h4, h5, h6⟩ := h0
    have HR : Hid (∀ o, Calls Try.prog 39 #[.slice a es.length cap, .int .i64 t] (w.alloc o) fun e w' => e = .returned (.bool (rising es t)) ∧ Below (w.alloc o).heap.size (w.alloc o) w') := fun o => rising_any a cap es t _ (hl.row.alloc o) hl.max
    generalize rising es t = R at HR
    have h6' : (es.length : Int) ≤ 64 := by omega
    clear hl
    by_cases hz : b = 0
    · obtain rfl := h5 hz
      subst hz
      clear h5 h1 h2 h3 h4
      go_enter Try.func24, Try.ntmps24
      go_wp2_with (go_at_call 39; refine (HR.out _).mono ?_; rintro e w1 ⟨rfl, hb1⟩)
      go_ret
      exact ⟨rfl, alloc_below hb1⟩
    · clear h5
      go_enter Try.func24, Try.ntmps24
      go_wp2_with (go_at_call 39; refine (HR.out _).mono ?_; rintro e w1 ⟨rfl, hb1⟩)
      go_ret
      exact ⟨rfl, alloc_below hb1⟩
  · rw [may_no h0]
    have hi0 : (0 : Int) ≤ es.length := by omega
    have H0 : Hid (0 ≤ b → b ≤ 1099511627776 → 0 ≤ t → t ≤ 1073741824 → ¬ (b = 0 ∧ t ≠ 0) → (64 : Int) < es.length) := by intro g1 g2 g3 g4 g5; omega
    clear hl h0
    by_cases h1 : b < 0
    · go_enter Try.func24, Try.ntmps24
      go_wp2
      go_ret
      exact ⟨rfl, (Below.refl _ _).alloc (Nat.le_refl _) _⟩
    by_cases h2 : 1099511627776 < b
    · go_enter Try.func24, Try.ntmps24
      go_wp2
      go_ret
      exact ⟨rfl, (Below.refl _ _).alloc (Nat.le_refl _) _⟩
    by_cases h3 : t < 0
    · go_enter Try.func24, Try.ntmps24
      go_wp2
      go_ret
      exact ⟨rfl, (Below.refl _ _).alloc (Nat.le_refl _) _⟩
    by_cases h4 : 1073741824 < t
    · go_enter Try.func24, Try.ntmps24
      go_wp2
      go_ret
      exact ⟨rfl, (Below.refl _ _).alloc (Nat.le_refl _) _⟩
    by_cases h5 : b = 0
    · subst h5
      by_cases h6 : t = 0
      · subst h6
        have h7 := H0.out (by omega) (by omega) (by omega) (by omega) (by simp)
        clear H0 h1 h2 h3 h4
        go_enter Try.func24, Try.ntmps24
        go_wp2
        go_ret
        exact ⟨rfl, (Below.refl _ _).alloc (Nat.le_refl _) _⟩
      · have h7 : (t != 0) = true := by simpa using h6
        clear h1 h2
        go_enter Try.func24, Try.ntmps24
        go_wp2
        go_ret
        exact ⟨rfl, (Below.refl _ _).alloc (Nat.le_refl _) _⟩
    · have h7 := H0.out (by omega) (by omega) (by omega) (by omega) (fun h => h5 h.1)
      have h8 : (b == 0) = false := by simpa using h5
      clear H0
      go_enter Try.func24, Try.ntmps24
      go_wp2
      go_ret
      exact ⟨rfl, (Below.refl _ _).alloc (Nat.le_refl _) _⟩
end Go.Proofs.Ytnbljcbfnplbaaa

/-
  Layer 4, the document's answer: rising terms, which log may be.
-/
namespace Go.Proofs.Ytnbljcbfnplbaaa
open Go.RowKit
set_option linter.unusedVariables false
set_option maxHeartbeats 1600000 in
theorem refRising_any (a : Option Addr) (cap : Nat) (es : List En) (f : Int) (w : World) (hr : RowAt w a (ensV es)) (hm : es.length ≤ maxLen) :
    Calls Try.prog 49 #[.slice a es.length cap, .int .i64 f] w fun e w' => e = .returned (.bool (rising es f)) ∧ w' = w := by
  have HM := Lib.hid hm
  clear hm
  go_enter Try.func49, Try.ntmps49
  go_wp2
  go_loopw [5, 6] (fun v i wr => ∃ (k : Nat) (g : Int), k ≤ es.length ∧ i = .int .i64 k ∧ v = .int .i64 g ∧ Hid (endT (es.take k) f = g) ∧ Hid (rising (es.take k) f = true) ∧ wr = w) (fun _ i _ => es.length - (intOf i).toNat)
  case atStart => exact ⟨0, f, by omega, rfl, rfl, rfl, rfl, rfl⟩
  case round =>
    obtain ⟨k, g, hk, rfl, rfl, HG, HR, rfl⟩ := hrel
    by_cases hlt : k < es.length
    · obtain ⟨b, off, rfl, hblt, hc⟩ := entry_cells (hr) hlt
      have HA : Hid (es[k]? = some (es[k]'hlt)) := List.getElem?_eq_getElem hlt
      have HF : Hid (¬ (1 ≤ (es[k]).1 ∧ g ≤ (es[k]).1 ∧ (es[k]).1 ≤ 1073741824) → rising es f = false) := fun h => rising_false hlt (by rw [HG.out]; exact h)
      have HT : Hid (1 ≤ (es[k]).1 ∧ g ≤ (es[k]).1 ∧ (es[k]).1 ≤ 1073741824 → rising (es.take (k + 1)) f = true) := fun h => rising_go hlt h.1 (by rw [HG.out]; exact h.2.1) h.2.2 HR.out
      have HE : Hid (endT (es.take (k + 1)) f = (es[k]).1) := endT_take hlt f
      generalize (es[k]'hlt) = x at hc HA HF HT HE
      obtain ⟨t, c1, c2, c3, c4, c5, c6⟩ := x
      simp only at hc HA HF HT HE
      obtain ⟨hc0, hc1, hc2, hc3, hc4, hc5, hc6⟩ := hc
      have hk0 : (0 : Int) ≤ (k : Int) := by omega
      have HW : Hid (wrap64 ((k : Int) + 1) = ((k + 1 : Nat) : Int)) := wrap_next hlt HM.out
      have hk1 : (k : Int) < (es.length : Int) := by omega
      clear hc1 hc2 hc3 hc4 hc5 hc6
      by_cases h1 : t < 1
      · have HO := Lib.hid (HF.out (by omega))
        clear HF HT HE HA
        go_wp2
        go_ret
        exact ⟨by rw [HO.out]; rfl, rfl⟩
      by_cases h2 : 1073741824 < t
      · have HO := Lib.hid (HF.out (by omega))
        clear HF HT HE HA
        go_wp2
        go_ret
        exact ⟨by rw [HO.out]; rfl, rfl⟩
      by_cases h3 : t < g
      · have HO := Lib.hid (HF.out (by omega))
        clear HF HT HE HA
        go_wp2
        go_ret
        exact ⟨by rw [HO.out]; rfl, rfl⟩
      have HT2 := Lib.hid (HT.out (by omega))
      clear HF HT HA
      go_wp2
      go_roundw
      case rel => exact ⟨k + 1, t, by omega, by rw [HW.out], rfl, HE, HT2, trivial⟩
      case measure => exact measure_next HW.out hlt
    · have hek : k = es.length := by omega
      have HO : Hid (rising es f = true) := by have := HR.out; rwa [hek, List.take_length] at this
      clear hek
      go_wp2
      go_ret
      exact ⟨by rw [HO.out]; rfl, rfl⟩
set_option maxHeartbeats 1600000 in
theorem refMay_any (b t : Int) (a : Option Addr) (cap : Nat) (es : List En) (w : World) (hl : LogIn w a cap es) :
    Calls Try.prog 34 #[logV b t a es.length cap] w fun e w' => e = .returned (.bool (mayL b t es)) ∧ Below w.heap.size w w' := by
  have HR : Hid (∀ o, Calls Try.prog 49 #[.slice a es.length cap, .int .i64 t] (w.alloc o) fun e w' => e = .returned (.bool (rising es t)) ∧ w' = w.alloc o) := fun o => refRising_any a cap es t _ (hl.row.alloc o) hl.max
  have HM : Hid (mayL b t es = (rising es t && decide (0 ≤ b) && decide (b ≤ 1099511627776) && decide (0 ≤ t) && decide (t ≤ 1073741824) && (decide (0 < b) || t == 0) && decide ((es.length : Int) ≤ 64))) := by
    unfold mayL
    rw [Hid, Bool.and_comm, Bool.and_assoc, Bool.and_assoc, Bool.and_assoc, Bool.and_assoc, Bool.and_assoc]
    congr 1
    rw [Bool.eq_iff_iff]
    simp only [decide_eq_true_eq, Bool.and_eq_true, Bool.or_eq_true, beq_iff_eq]
    omega
  rw [HM.out]
  generalize rising es t = R at HR
  clear hl HM
  go_enter Try.func34, Try.ntmps34
  go_wp2_with (go_at_call 49; refine (HR.out _).mono ?_; rintro e w1 ⟨rfl, rfl⟩)
  all_goals (go_ret; refine ⟨ret_bool ?_, below1 _ _⟩)
  all_goals (simp_all; try omega)
end Go.Proofs.Ytnbljcbfnplbaaa

/-
  Layer 4: rows of entries, their copies, two lists that are the same.
-/
namespace Go.Proofs.Ytnbljcbfnplbaaa
open Go.RowKit
set_option linter.unusedVariables false
instance decCm : DecidableEq Cm := by unfold Cm; infer_instance
instance decEn : DecidableEq En := by unfold En; infer_instance
theorem elemE : Elem Try.prog 24 41 (.agg #[.int .i64 0, .int .i64 0, .int .i64 0, .int .i64 0, .int .i64 0, .int .i64 0, .int .i64 0]) 7 56 := ⟨Try.underlying24, by kernel_rfl, rfl, by omega⟩
/-- The front part of a row of the call's own. -/
theorem own_front {w : World} {base : Nat} {e : TypeId} {size n cap k : Nat} {A : Option Addr} {xs : List Value} (h : w.ownsRow base e size (.slice A n cap) n xs) (hk : k ≤ n) : w.ownsRow base e size (.slice A k cap) k (xs.take (k * size)) := by
  obtain ⟨hl, h2⟩ := h
  refine ⟨?_, ?_⟩
  · rw [List.length_take, hl]
    exact Nat.min_eq_left (Nat.mul_le_mul_right _ hk)
  · rcases h2 with ⟨hv, hx⟩ | ⟨g, c, cur, hv, hg, hh, hnc, hcm, hcs, hx⟩
    · injection hv with h1 h3 h4
      subst h1 h3 h4
      obtain rfl : k = 0 := by omega
      exact .inl ⟨rfl, by simp⟩
    · injection hv with h1 h3 h4
      subst h1 h4
      refine .inr ⟨g, cap, cur, rfl, hg, hh, Nat.le_trans hk hnc, hcm, hcs, ?_⟩
      rw [← hx, List.take_take, Nat.min_eq_left (Nat.mul_le_mul_right _ hk)]
theorem own_le' {w : World} {base : Nat} {e : TypeId} {size n cap : Nat} {A : Option Addr} {xs : List Value} (h : w.ownsRow base e size (.slice A n cap) n xs) : n ≤ cap := by
  obtain ⟨_, c, hv, hc⟩ := own_form h
  injection hv with _ _ h4
  omega
theorem own_max {w : World} {base : Nat} {e : TypeId} {size n cap : Nat} {A : Option Addr} {xs : List Value} (h : w.ownsRow base e size (.slice A n cap) n xs) : n ≤ maxLen := by
  rcases h.2 with ⟨hv, hx⟩ | ⟨g, c, cur, hv, hg, hh, hnc, hcm, _⟩
  · injection hv with _ h3 _
    unfold maxLen
    omega
  · exact Nat.le_trans hnc hcm
theorem own_nil' {w : World} {base : Nat} {e : TypeId} {size n cap : Nat} {A : Option Addr} {xs : List Value} (h : w.ownsRow base e size (.slice A n cap) n xs) : A = none → n = 0 := fun ha => by
  subst ha
  rcases h.2 with ⟨hv, hx⟩ | ⟨g, c, cur, hv, _⟩
  · injection hv
  · injection hv with h1
    cases h1
theorem LogIn.of_own {w : World} {base cap : Nat} {A : Option Addr} {es : List En} (h : w.ownsRow base 41 7 (.slice A es.length cap) es.length (ensV es)) : LogIn w A cap es := ⟨RowAt.of_own h, own_le' h, own_nil' h, own_max h⟩
set_option maxHeartbeats 1600000 in
theorem clone_any (a : Option Addr) (cap : Nat) (es : List En) (w : World) (hl : LogIn w a cap es) (hs : es.length ≤ 1000000) :
    Calls Try.prog 31 #[.slice a es.length cap] w (RetRow 41 7 es.length (ensV es) w) := by
  have q := fun (w : World) (a : Option Addr) (n c n' c' : Nat) => Lib.run_eql_slice_nil w 24 41 a n c n' c' Try.underlying24
  cases a with
  | none =>
    have h0 := hl.none_ rfl
    obtain rfl := List.eq_nil_of_length_eq_zero h0
    clear hl hs h0
    go_enter Try.func31, Try.ntmps31
    go_wp2
    go_ret
    exact ⟨none, 0, rfl, World.ownsRow_nil _ _ _ _, below0 _⟩
  | some p =>
    have HR := Lib.hid hl.row
    have hL := ensV_length es
    have h1 := ensV_one es
    have HL := Lib.hid hL
    clear hl hL
    go_enter Try.func31, Try.ntmps31
    go_wp2_with (at_builtin; refine wpList_append_row rfl (.tmp 5) (.tmp 6) rfl elemE w.heap.size _ 0 [] (by rfl) (World.ownsRow_made w #[] 0 (Nat.le_refl _) (Nat.zero_le _) (by simp)) (some p) es.length cap (ensV es) (by rfl) HL.out (HR.out.alloc _) h1 (by unfold maxLen; omega) (by omega) (by simp) (fun h => by cases h) ?_; intro a1 c1 w1 hown hg hat)
    simp only [Nat.zero_add, List.nil_append] at hown
    go_ret
    exact ⟨a1, c1, rfl, hown, Below.appended (below1 w _) (World.ownsRow_made (size := 7) w #[] 0 (Nat.le_refl _) (Nat.zero_le _) (by simp)) hg (by simp) (Nat.le_refl _)⟩
theorem take_eq_go {es fs : List En} {k : Nat} (h1 : k < es.length) (h2 : k < fs.length) (h : es.take k = fs.take k) (e : es[k]'h1 = fs[k]'h2) : es.take (k + 1) = fs.take (k + 1) := by
  rw [List.take_add_one, List.take_add_one, h, List.getElem?_eq_getElem h1, List.getElem?_eq_getElem h2, e]
set_option maxHeartbeats 1600000 in
theorem same_any (a : Option Addr) (cap : Nat) (es : List En) (a' : Option Addr) (cap' : Nat) (fs : List En) (w : World) (hr : RowAt w a (ensV es)) (hr' : RowAt w a' (ensV fs)) (hm : es.length ≤ maxLen) :
    Calls Try.prog 20 #[.slice a es.length cap, .slice a' fs.length cap'] w fun e w' => e = .returned (.bool (decide (es = fs))) ∧ Below w.heap.size w w' := by
  by_cases hl : es.length = fs.length
  rotate_left 1
  · have hl1 : ((es.length : Int) != (fs.length : Int)) = true := by simp; omega
    have hne : es ≠ fs := fun h => hl (by rw [h])
    rw [decide_eq_false hne]
    clear hr hr' hl hne
    go_enter Try.func20, Try.ntmps20
    go_wp2
    go_ret
    exact ⟨rfl, below0 _⟩
  have hl1 : ((es.length : Int) != (fs.length : Int)) = false := by simp; omega
  have HL := Lib.hid hl
  have HM := Lib.hid hm
  clear hm
  go_enter Try.func20, Try.ntmps20
  go_wp2
  clear hl1
  go_loopw [5] (fun i wr => ∃ k : Nat, k ≤ es.length ∧ i = .int .i64 k ∧ Hid (es.take k = fs.take k) ∧ Below w.heap.size w wr) (fun i _ => es.length - (intOf i).toNat)
  case atStart => exact ⟨0, by omega, rfl, rfl, below0 _⟩
  case round =>
    obtain ⟨k, hk, rfl, HE, hb⟩ := hrel
    by_cases hlt : k < es.length
    · have hlt' : k < fs.length := by omega
      obtain ⟨b, off, rfl, hblt, c0, c1, c2, c3, c4, c5, c6⟩ := entry_cells (hr.below hb) hlt
      obtain ⟨b', off', rfl, hblt', d0, d1, d2, d3, d4, d5, d6⟩ := entry_cells (hr'.below hb) hlt'
      have HG : Hid (es[k]'hlt = fs[k]'hlt' → es.take (k + 1) = fs.take (k + 1)) := take_eq_go hlt hlt' HE.out
      have HN : Hid (es = fs → es[k]'hlt = fs[k]'hlt') := fun h => by subst h; rfl
      generalize (es[k]'hlt) = x at c0 c1 c2 c3 c4 c5 c6 HG HN
      generalize (fs[k]'hlt') = y at d0 d1 d2 d3 d4 d5 d6 HG HN
      obtain ⟨x0, x1, x2, x3, x4, x5, x6⟩ := x
      obtain ⟨y0, y1, y2, y3, y4, y5, y6⟩ := y
      simp only at c0 c1 c2 c3 c4 c5 c6 d0 d1 d2 d3 d4 d5 d6
      have hk0 : (0 : Int) ≤ (k : Int) := by omega
      have hk1 : (k : Int) < (es.length : Int) := by omega
      have hk2 : (k : Int) < (fs.length : Int) := by omega
      have HW : Hid (wrap64 ((k : Int) + 1) = ((k + 1 : Nat) : Int)) := wrap_next hlt HM.out
      by_cases hxy : (x0, x1, x2, x3, x4, x5, x6) = (y0, y1, y2, y3, y4, y5, y6)
      · have HG2 := Lib.hid (HG.out hxy)
        simp only [Prod.mk.injEq] at hxy
        obtain ⟨rfl, rfl, rfl, rfl, rfl, rfl, rfl⟩ := hxy
        clear hl hlt' hr hr'
        go_wp2
        go_quiet (fail)
        go_wp2
        go_roundw
        case rel => exact ⟨k + 1, by omega, by rw [HW.out], HG2, Below.many hb _⟩
        case measure => exact measure_next HW.out hlt
      · have HNE : Hid (es ≠ fs) := fun h => hxy (HN.out h)
        have HXY := Lib.hid hxy
        clear hl hlt' hr hr' hxy HN HG
        by_cases h0 : x0 = y0
        rotate_left 1
        · have hq : (x0 == y0) = false := by simpa using h0
          clear h0
          go_wp2
          go_quiet (fail)
          go_wp2
          go_ret
          exact ⟨by rw [decide_eq_false HNE.out]; rfl, Below.many hb _⟩
        subst h0
        by_cases h1 : x1 = y1
        rotate_left 1
        · have hq : (x1 == y1) = false := by simpa using h1
          clear h1
          go_wp2
          go_quiet (fail)
          go_wp2
          go_ret
          exact ⟨by rw [decide_eq_false HNE.out]; rfl, Below.many hb _⟩
        subst h1
        by_cases h2 : x2 = y2
        rotate_left 1
        · have hq : (x2 == y2) = false := by simpa using h2
          clear h2
          go_wp2
          go_quiet (fail)
          go_wp2
          go_ret
          exact ⟨by rw [decide_eq_false HNE.out]; rfl, Below.many hb _⟩
        subst h2
        by_cases h3 : x3 = y3
        rotate_left 1
        · have hq : (x3 == y3) = false := by simpa using h3
          clear h3
          go_wp2
          go_quiet (fail)
          go_wp2
          go_ret
          exact ⟨by rw [decide_eq_false HNE.out]; rfl, Below.many hb _⟩
        subst h3
        by_cases h4 : x4 = y4
        rotate_left 1
        · have hq : (x4 == y4) = false := by simpa using h4
          clear h4
          go_wp2
          go_quiet (fail)
          go_wp2
          go_ret
          exact ⟨by rw [decide_eq_false HNE.out]; rfl, Below.many hb _⟩
        subst h4
        by_cases h5 : x5 = y5
        rotate_left 1
        · have hq : (x5 == y5) = false := by simpa using h5
          clear h5
          go_wp2
          go_quiet (fail)
          go_wp2
          go_ret
          exact ⟨by rw [decide_eq_false HNE.out]; rfl, Below.many hb _⟩
        subst h5
        by_cases h6 : x6 = y6
        rotate_left 1
        · have hq : (x6 == y6) = false := by simpa using h6
          clear h6
          go_wp2
          go_quiet (fail)
          go_wp2
          go_ret
          exact ⟨by rw [decide_eq_false HNE.out]; rfl, Below.many hb _⟩
        subst h6
        exact (HXY.out rfl).elim
    · have hek : k = es.length := by omega
      have hEQ : es = fs := by
        have := HE.out
        rwa [hek, List.take_length, hl, List.take_length] at this
      have HEQ := Lib.hid hEQ
      clear hek hEQ
      go_wp2
      go_ret
      exact ⟨by rw [decide_eq_true HEQ.out]; rfl, hb⟩
end Go.Proofs.Ytnbljcbfnplbaaa

/-
  Layer 4, the document's answer: two logs that are the same.
-/
namespace Go.Proofs.Ytnbljcbfnplbaaa
open Go.RowKit
set_option linter.unusedVariables false
theorem logs_any (b t : Int) (a : Option Addr) (cap : Nat) (es : List En) (b' t' : Int) (a' : Option Addr) (cap' : Nat) (fs : List En) (w : World) (hl : LogIn w a cap es) (hl' : LogIn w a' cap' fs) :
    Calls Try.prog 15 #[logV b t a es.length cap, logV b' t' a' fs.length cap'] w fun e w' => e = .returned (.bool (decide (es = fs) && b == b' && t == t')) ∧ Below w.heap.size w w' := by
  have HS : Hid (∀ W, Below w.heap.size w W → Calls Try.prog 20 #[.slice a es.length cap, .slice a' fs.length cap'] W fun e w' => e = .returned (.bool (decide (es = fs))) ∧ Below W.heap.size W w') := fun W h => same_any a cap es a' cap' fs W (hl.below h).row (hl'.below h).row hl.max
  clear hl hl'
  generalize decide (es = fs) = R at HS
  go_enter Try.func15, Try.ntmps15
  go_wp2_with (go_at_call 20; refine (HS.out _ (below2 _ _ _)).mono ?_; rintro e w1 ⟨rfl, hb1⟩; have g0 := blk_keep hb1 (alloc2_fst _ _ _); have g1 := blk_keep hb1 (alloc2_snd _ _ _); obtain ⟨hc0, hc1, hc2, _, _, _, hlt0⟩ := box3 g0; obtain ⟨lc0, lc1, lc2, _, _, _, hlt1⟩ := box3 g1)
  all_goals (go_ret; refine ⟨ret_bool ?_, alloc2_below hb1⟩)
  all_goals simp_all
end Go.Proofs.Ytnbljcbfnplbaaa

/-
  Layer 5: who is a member, which ballot may be.
-/
namespace Go.Proofs.Ytnbljcbfnplbaaa
open Go.RowKit
set_option linter.unusedVariables false
abbrev ballotV (t v : Int) : Value := .agg #[.int .i64 t, .int .i64 v]
def memberB (f : Int) : Bool := decide (1 ≤ f) && decide (f ≤ 16)
def mayV (t v : Int) : Bool := decide (0 ≤ t) && decide (t ≤ 1073741824) && (v == 0 || memberB v)
theorem member_any (f : Int) (w : World) : Calls Try.prog 40 #[.int .i64 f] w fun e w' => e = .returned (.bool (memberB f)) ∧ w' = w := by
  unfold memberB
  go_enter Try.func40, Try.ntmps40
  go_wp2
  all_goals (go_ret; refine ⟨ret_bool ?_, rfl⟩)
  all_goals (simp_all; try omega)
set_option maxHeartbeats 1600000 in
theorem mayV_any (t v : Int) (w : World) : Calls Try.prog 25 #[ballotV t v] w fun e w' => e = .returned (.bool (mayV t v)) ∧ Below w.heap.size w w' := by
  have HM : Hid (∀ W, Calls Try.prog 40 #[.int .i64 v] W fun e w' => e = .returned (.bool (memberB v)) ∧ w' = W) := fun W => member_any v W
  unfold mayV
  generalize memberB v = m at HM
  go_enter Try.func25, Try.ntmps25
  go_wp2_with (go_at_call 40; refine (HM.out _).mono ?_; rintro e w1 ⟨rfl, rfl⟩)
  all_goals (go_ret; refine ⟨ret_bool ?_, below1 _ _⟩)
  all_goals (simp_all; try omega)
set_option maxHeartbeats 1600000 in
theorem refMayV_any (t v : Int) (w : World) : Calls Try.prog 33 #[ballotV t v] w fun e w' => e = .returned (.bool (mayV t v)) ∧ Below w.heap.size w w' := by
  have HM : Hid (mayV t v = (decide (0 ≤ t) && decide (t ≤ 1073741824) && decide (0 ≤ v) && decide (v ≤ 16))) := by
    unfold mayV memberB
    rw [Hid, Bool.eq_iff_iff]
    simp only [decide_eq_true_eq, Bool.and_eq_true, Bool.or_eq_true, beq_iff_eq]
    omega
  rw [HM.out]
  clear HM
  go_enter Try.func33, Try.ntmps33
  go_wp2
  all_goals (go_ret; refine ⟨ret_bool ?_, below1 _ _⟩)
  all_goals (simp_all; try omega)
end Go.Proofs.Ytnbljcbfnplbaaa
