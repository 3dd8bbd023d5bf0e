/-
  Bb: several texts in one.
-/
import Derived.Test.YthjdbmfobmnnlaaGreatBa
import Derived.Lib.SmallJoins
import Derived.ProofKit
import Derived.Deep.Slices
import Derived.Deep.Fields
import Derived.ChangeSame
/-
  Logs of entries in plain terms: rising terms, which log may be, the term of an index, what is added, what is cut out.
-/
namespace Go.Proofs.YthjdbmfobmnnlaaGreat
open Go.RowKit
/-- A command's six numbers; an entry: its term, and that. -/
abbrev Cm := Int × Int × Int × Int × Int × Int
abbrev En := Int × Cm
/-- An entry's cells. -/
def enV (e : En) : List Value := [.int .i64 e.1, .int .i64 e.2.1, .int .i64 e.2.2.1, .int .i64 e.2.2.2.1, .int .i64 e.2.2.2.2.1, .int .i64 e.2.2.2.2.2.1, .int .i64 e.2.2.2.2.2.2]
def ensV (es : List En) : List Value := es.flatMap enV
theorem enV_length (e : En) : (enV e).length = 7 := rfl
theorem ensV_nil : ensV [] = [] := rfl
theorem ensV_cons (e : En) (es : List En) : ensV (e :: es) = enV e ++ ensV es := rfl
theorem ensV_append (es fs : List En) : ensV (es ++ fs) = ensV es ++ ensV fs := List.flatMap_append
theorem ensV_length (es : List En) : (ensV es).length = es.length * 7 := by
  induction es with
  | nil => rfl
  | cons e es ih => rw [ensV_cons, List.length_append, ih, enV_length, List.length_cons]; omega
theorem ensV_one (es : List En) : ∀ u ∈ ensV es, u.oneCell' = true := by
  intro u hu
  obtain ⟨e, _, h⟩ := List.mem_flatMap.1 hu
  simp only [enV, List.mem_cons, List.not_mem_nil, or_false] at h
  rcases h with rfl | rfl | rfl | rfl | rfl | rfl | rfl <;> rfl
theorem ensV_take (es : List En) (k : Nat) : (ensV es).take (k * 7) = ensV (es.take k) := by
  induction es generalizing k with
  | nil => simp [ensV]
  | cons e es ih =>
    cases k with
    | zero => simp [ensV]
    | succ k =>
      rw [List.take_succ_cons, ensV_cons, ensV_cons, ← ih, show (k + 1) * 7 = (enV e).length + k * 7 by rw [enV_length]; omega, List.take_length_add_append]
theorem ensV_drop (es : List En) (k : Nat) : (ensV es).drop (k * 7) = ensV (es.drop k) := by
  induction es generalizing k with
  | nil => simp [ensV]
  | cons e es ih =>
    cases k with
    | zero => simp
    | succ k =>
      rw [List.drop_succ_cons, ensV_cons, ← ih, show (k + 1) * 7 = (enV e).length + k * 7 by rw [enV_length]; omega, List.drop_length_add_append]
theorem ensV_at {es : List En} {k j : Nat} (hk : k < es.length) (hj : j < 7) : (ensV es)[k * 7 + j]? = (enV es[k])[j]? := by
  have h1 : (ensV es).drop (k * 7) = enV es[k] ++ ensV (es.drop (k + 1)) := by
    rw [ensV_drop, List.drop_eq_getElem_cons hk, ensV_cons]
  have h2 : ((ensV es).drop (k * 7))[j]? = (ensV es)[k * 7 + j]? := List.getElem?_drop
  rw [← h2, h1, List.getElem?_append_left (by rw [enV_length]; exact hj)]
/-! ### Rising terms -/
def rising : List En → Int → Bool
  | [], _ => true
  | e :: es, f => decide (1 ≤ e.1 ∧ f ≤ e.1 ∧ e.1 ≤ 1073741824) && rising es e.1
/-- The last entry's term, or what was ahead. -/
def endT (es : List En) (f : Int) : Int := match es.getLast? with
  | none => f
  | some e => e.1
theorem endT_nil (f : Int) : endT [] f = f := rfl
theorem endT_snoc (es : List En) (e : En) (f : Int) : endT (es ++ [e]) f = e.1 := by simp [endT]
theorem endT_cons (e : En) (es : List En) (f : Int) : endT (e :: es) f = endT es e.1 := by
  unfold endT
  cases es with
  | nil => rfl
  | cons x xs => rw [List.getLast?_cons_cons, List.getLast?_eq_some_getLast (List.cons_ne_nil x xs)]
theorem rising_append (xs ys : List En) (f : Int) : rising (xs ++ ys) f = (rising xs f && rising ys (endT xs f)) := by
  induction xs generalizing f with
  | nil => simp [rising, endT_nil]
  | cons x xs ih => rw [List.cons_append, rising, rising, ih, endT_cons, Bool.and_assoc]
theorem rising_take {es : List En} {f : Int} (h : rising es f = true) (k : Nat) : rising (es.take k) f = true := by
  rw [← List.take_append_drop k es, rising_append, Bool.and_eq_true] at h
  exact h.1
theorem rising_drop {es : List En} {f : Int} (h : rising es f = true) (k : Nat) : rising (es.drop k) (endT (es.take k) f) = true := by
  rw [← List.take_append_drop k es, rising_append, Bool.and_eq_true] at h
  exact h.2
theorem endT_take {es : List En} {k : Nat} (hk : k < es.length) (f : Int) : endT (es.take (k + 1)) f = (es[k]).1 := by
  rw [List.take_add_one, List.getElem?_eq_getElem hk]
  exact endT_snoc _ _ _
theorem rising_at {es : List En} {f : Int} {k : Nat} (hk : k < es.length) (h : rising es f = true) : 1 ≤ (es[k]).1 ∧ endT (es.take k) f ≤ (es[k]).1 ∧ (es[k]).1 ≤ 1073741824 := by
  have := rising_drop h k
  rw [List.drop_eq_getElem_cons hk, rising, Bool.and_eq_true, decide_eq_true_eq] at this
  exact this.1
theorem rising_false {es : List En} {f : Int} {k : Nat} (hk : k < es.length) (h : ¬ (1 ≤ (es[k]).1 ∧ endT (es.take k) f ≤ (es[k]).1 ∧ (es[k]).1 ≤ 1073741824)) : rising es f = false := by
  cases hr : rising es f with
  | false => rfl
  | true => exact absurd (rising_at hk hr) h
theorem rising_all {es : List En} {f : Int} (h : ∀ k, (hk : k < es.length) → 1 ≤ (es[k]).1 ∧ endT (es.take k) f ≤ (es[k]).1 ∧ (es[k]).1 ≤ 1073741824) : rising es f = true := by
  induction es generalizing f with
  | nil => rfl
  | cons e es ih =>
    rw [rising, Bool.and_eq_true, decide_eq_true_eq]
    refine ⟨h 0 (by simp), ih fun k hk => ?_⟩
    have := h (k + 1) (by simp; omega)
    simpa [endT_cons] using this
/-! ### Logs: a base, its term, entries -/
def mayL (b t : Int) (es : List En) : Bool := decide (0 ≤ b ∧ b ≤ 1099511627776 ∧ 0 ≤ t ∧ t ≤ 1073741824 ∧ (b = 0 → t = 0) ∧ es.length ≤ 64) && rising es t
theorem mayL_true {b t : Int} {es : List En} (h : mayL b t es = true) : 0 ≤ b ∧ b ≤ 1099511627776 ∧ 0 ≤ t ∧ t ≤ 1073741824 ∧ (b = 0 → t = 0) ∧ es.length ≤ 64 ∧ rising es t = true := by
  unfold mayL at h
  rw [Bool.and_eq_true, decide_eq_true_eq] at h
  exact ⟨h.1.1, h.1.2.1, h.1.2.2.1, h.1.2.2.2.1, h.1.2.2.2.2.1, h.1.2.2.2.2.2, h.2⟩
theorem mayL_mk {b t : Int} {es : List En} (h1 : 0 ≤ b) (h2 : b ≤ 1099511627776) (h3 : 0 ≤ t) (h4 : t ≤ 1073741824) (h5 : b = 0 → t = 0) (h6 : es.length ≤ 64) (h7 : rising es t = true) : mayL b t es = true := by
  unfold mayL
  rw [Bool.and_eq_true, decide_eq_true_eq]
  exact ⟨⟨h1, h2, h3, h4, h5, h6⟩, h7⟩
/-- The term of an index of a log that may be: whether it is one, too. -/
def termL (b t : Int) (es : List En) (i : Int) : Int × Bool :=
  if i = b then (t, true) else if i < b ∨ b + es.length < i then (0, false) else ((es.getD (i - b - 1).toNat default).1, true)
theorem termL_at {b t : Int} {es : List En} {i : Int} (k : Nat) (hk : k ≤ es.length) (hi : i = b + k) : termL b t es i = (endT (es.take k) t, true) := by
  unfold termL
  subst hi
  cases k with
  | zero => simp [endT_nil]
  | succ k =>
    rw [if_neg (by omega), if_neg (by omega), show (b + ((k + 1 : Nat) : Int) - b - 1).toNat = k by omega, endT_take (by omega), List.getD_eq_getElem?_getD, List.getElem?_eq_getElem (by omega)]
    rfl
theorem termL_out {b t : Int} {es : List En} {i : Int} (h : i < b ∨ b + es.length < i) : termL b t es i = (0, false) := by
  unfold termL
  rw [if_neg (by omega), if_pos h]
def newerB (i t k u : Int) : Bool := decide (t > u ∨ (t = u ∧ i ≥ k))
theorem newerB_total {i t k u : Int} (h : newerB i t k u = false) : newerB k u i t = true := by
  unfold newerB at *
  simp only [decide_eq_false_iff_not, decide_eq_true_eq] at *
  omega
theorem newerB_both {i t k u : Int} (h1 : newerB i t k u = true) (h2 : newerB k u i t = true) : i = k ∧ t = u := by
  unfold newerB at *
  simp only [decide_eq_true_eq] at *
  omega
theorem newerB_trans {i t k u m v : Int} (h1 : newerB i t k u = true) (h2 : newerB k u m v = true) : newerB i t m v = true := by
  unfold newerB at *
  simp only [decide_eq_true_eq] at *
  omega
theorem newerB_refl (i t : Int) : newerB i t i t = true := by
  unfold newerB
  simp
/-! ### What is added -/
/-- Entries behind the first so many of others: what is there of the same term stays; from the first other one on all is new. -/
def mergeL (es : List En) : Nat → List En → List En
  | _, [] => es
  | k, m :: ms => if k < es.length ∧ (es.getD k default).1 = m.1 then mergeL es (k + 1) ms else es.take k ++ m :: ms
theorem mergeL_new {es : List En} {k : Nat} {m : En} {ms : List En} (h : ¬ (k < es.length ∧ (es.getD k default).1 = m.1)) : mergeL es k (m :: ms) = es.take k ++ m :: ms := by rw [mergeL, if_neg h]
theorem mergeL_same {es : List En} {k : Nat} {m : En} {ms : List En} (h : k < es.length ∧ (es.getD k default).1 = m.1) : mergeL es k (m :: ms) = mergeL es (k + 1) ms := by rw [mergeL, if_pos h]
theorem mergeL_end (es : List En) (ms : List En) : mergeL es es.length ms = es ++ ms := by
  cases ms with
  | nil => simp [mergeL]
  | cons m ms => rw [mergeL_new (by omega), List.take_length]
/-- The document's step: what is there goes as soon as one of another term comes. -/
theorem mergeL_step {es : List En} {k : Nat} {m : En} {ms : List En} (hk : k ≤ es.length) (h : ¬ (k < es.length ∧ (es.getD k default).1 = m.1)) : mergeL es k (m :: ms) = mergeL (es.take k ++ [m]) (k + 1) ms := by
  have hl : (es.take k ++ [m]).length = k + 1 := by simp; omega
  rw [mergeL_new h, ← hl, mergeL_end]
  simp
theorem mergeL_facts (es : List En) (ms : List En) (k : Nat) (hk : k ≤ es.length) :
    k + ms.length ≤ (mergeL es k ms).length ∧ (mergeL es k ms).take k = es.take k ∧ (∀ i, (hi : i < ms.length) → ((mergeL es k ms).getD (k + i) default).1 = (ms[i]).1) ∧
      (∀ f, rising es f = true → rising ms (endT (es.take k) f) = true → rising (mergeL es k ms) f = true) ∧ (mergeL es k ms).length ≤ es.length + ms.length := by
  induction ms generalizing k with
  | nil => exact ⟨by simpa [mergeL] using hk, by simp [mergeL], fun i hi => by simp at hi, fun f h _ => by simpa [mergeL] using h, by simp [mergeL]⟩
  | cons m ms ih =>
    by_cases h : k < es.length ∧ (es.getD k default).1 = m.1
    · obtain ⟨h1, h2, h3, h4, h5⟩ := ih (k + 1) h.1
      rw [mergeL_same h]
      have hm : es[k].1 = m.1 := by
        have := h.2
        rwa [List.getD_eq_getElem?_getD, List.getElem?_eq_getElem h.1] at this
      refine ⟨by simp at h1 ⊢; omega, ?_, fun i hi => ?_, fun f hf hr => h4 f hf ?_, by simp at h5 ⊢; omega⟩
      · have := congrArg (List.take k) h2
        simpa [List.take_take, Nat.min_eq_left (Nat.le_succ k)] using this
      · cases i with
        | zero =>
          have h6 : (mergeL es (k + 1) ms)[k]? = es[k]? := by
            have := congrArg (fun l => l[k]?) h2
            simpa [List.getElem?_take] using this
          have h7 : ((mergeL es (k + 1) ms).getD k default).1 = es[k].1 := by rw [List.getD_eq_getElem?_getD, h6, List.getElem?_eq_getElem h.1]; rfl
          exact h7.trans hm
        | succ i => have := h3 i (by simp at hi; omega); rw [show k + (i + 1) = k + 1 + i by omega, this]; rfl
      · rw [endT_take h.1, hm]
        rw [rising, Bool.and_eq_true] at hr
        exact hr.2
    · rw [mergeL_new h]
      have hl : (es.take k).length = k := by rw [List.length_take]; omega
      refine ⟨by simp; omega, by rw [List.take_append_of_le_length (by omega), List.take_take, Nat.min_self], fun i hi => ?_, fun f hf hr => ?_, by simp; omega⟩
      · rw [List.getD_eq_getElem?_getD, List.getElem?_append_right (by omega), hl, Nat.add_sub_cancel_left, List.getElem?_eq_getElem hi]
        rfl
      · rw [rising_append, rising_take hf, hr]
        rfl
/-- What is there in full leaves all as it is. -/
theorem mergeL_there {es : List En} : ∀ {ms : List En} {k : Nat}, k + ms.length ≤ es.length → (∀ i, (hi : i < ms.length) → (es.getD (k + i) default).1 = (ms[i]).1) → mergeL es k ms = es
  | [], _, _, _ => rfl
  | m :: ms, k, h, hm => by
    simp only [List.length_cons] at h
    rw [mergeL_same (show k < es.length ∧ (es.getD k default).1 = m.1 from ⟨by omega, hm 0 (by simp)⟩)]
    exact mergeL_there (by omega) fun i hi => by have := hm (i + 1) (by simp; omega); rw [show k + 1 + i = k + (i + 1) by omega, this]; rfl
theorem mergeL_again {es : List En} {k : Nat} (ms : List En) (hk : k ≤ es.length) : mergeL (mergeL es k ms) k ms = mergeL es k ms :=
  mergeL_there (mergeL_facts es ms k hk).1 (mergeL_facts es ms k hk).2.2.1
/-- The code's way: skip what is there, then put the rest behind. -/
theorem mergeL_skip {es : List En} {k : Nat} (ms : List En) (j : Nat) (hj : j ≤ ms.length) (hk : k + j ≤ es.length) (hm : ∀ i, (hi : i < j) → (es.getD (k + i) default).1 = (ms.getD i default).1) : mergeL es k ms = mergeL es (k + j) (ms.drop j) := by
  induction j with
  | zero => rfl
  | succ j ih =>
    rw [ih (by omega) (by omega) fun i hi => hm i (by omega), List.drop_eq_getElem_cons (show j < ms.length by omega), mergeL_same ⟨by omega, ?_⟩]
    · rfl
    · have := hm j (by omega)
      rwa [show ms.getD j default = ms[j] by rw [List.getD_eq_getElem?_getD, List.getElem?_eq_getElem (show j < ms.length by omega)]; rfl] at this
/-! ### Some entries -/
def fromL (b : Int) (es : List En) (i most : Int) : List En := if i ≤ b ∨ b + es.length < i ∨ most ≤ 0 then [] else (es.drop (i - b - 1).toNat).take most.toNat
theorem fromL_none {b : Int} {es : List En} {i most : Int} (h : i ≤ b ∨ b + es.length < i ∨ most ≤ 0) : fromL b es i most = [] := if_pos h
theorem fromL_some {b : Int} {es : List En} {i most : Int} (h : ¬ (i ≤ b ∨ b + es.length < i ∨ most ≤ 0)) : fromL b es i most = (es.drop (i - b - 1).toNat).take most.toNat := if_neg h
end Go.Proofs.YthjdbmfobmnnlaaGreat

/-
  Slices of structs of one-cell fields, as they come in.
-/
namespace Go.Proofs.YthjdbmfobmnnlaaGreat
open Go.RowKit
open Go.ChangeShapes Go.WideShapes Go.Deep Go.Joins
section
variable {H : Type} {enc : TypeId × Value → H} {P : Program} {w : World} {base : Nat}
theorem open_structs {t e : TypeId} {fs : Array Field} {fuel : Nat} {cs : List Value} {x : DataW H × List MemPlace} (ht : P.underlying t = some (.slice e)) (he : P.underlying e = some (.struct fs))
    (hone : oneCellFields P fs = true) (hC : P.cellsOf e = fs.size) (h0 : 0 < fs.size) (h : DataW.trod enc P w base (fun _ => true) true fuel t cs = some x) :
    ∃ (a : Option Addr) (len cap : Nat) (xs : List Value), cs = [.slice a len cap] ∧ len ≤ cap ∧ cap ≤ maxLen ∧ (a = none → len = 0) ∧ RowAt w a xs ∧ xs.length = len * fs.size ∧
      ∀ i, i < len → ∀ (j : Nat) (f : Field), fs[j]? = some f → ∃ (v : Value) (y : DataW H × List MemPlace) (n : Nat), xs[i * fs.size + j]? = some v ∧ DataW.trod enc P w base (fun _ => true) true n f.type [v] = some y := by
  rcases open_slice ht h with ⟨h1, _⟩ | ⟨a, len, cap, m, n, D, Pl, hcs, hb, hl, hm, hmm, hx, hi⟩
  · exact ⟨none, 0, 0, [], h1, Nat.le_refl _, Nat.zero_le _, fun _ => rfl, RowAt.nil, by simp, fun i hi => by omega⟩
  · have hcell : ∀ i, i < len → ∀ (j : Nat) (f : Field), fs[j]? = some f → ∃ (v : Value) (y : DataW H × List MemPlace) (n : Nat), w.cell? (a.add (i * fs.size + j)) = some v ∧ DataW.trod enc P w base (fun _ => true) true n f.type [v] = some y := by
      intro i hil j f hj
      have him : i < m := by rw [hmm]; simp; omega
      obtain ⟨cs', hc, ht'⟩ := hi i him
      rw [hC] at hc
      obtain ⟨ys, n', hn', hy, hlen, hyl, hf⟩ := DataW.trod_struct he ht'
      obtain ⟨_, hcl, hat⟩ := World.cells?_some hc
      obtain ⟨ho, hk⟩ := hone_of hone j f hj
      have hjl : j < fs.size := (Array.getElem?_eq_some_iff.1 hj).1
      have hcell := hat j hjl
      have hv : cs'[j]? = some (cs'[j]'(by omega)) := List.getElem?_eq_getElem (by omega)
      have h1 := hf j f hj
      rw [ho, hk] at h1
      have hone' : (cs'.drop j).take 1 = [cs'[j]'(by omega)] := by
        rw [List.drop_eq_getElem_cons (by omega)]
        rfl
      rw [hone'] at h1
      have hys : ys[j]? = some (ys[j]'(by omega)) := List.getElem?_eq_getElem (by omega)
      refine ⟨_, _, _, ?_, h1.trans hys⟩
      rw [← Go.Deep.add_add, hcell, hv]
    by_cases h1 : len = 0
    · exact ⟨some a, len, cap, [], hcs, hl, hm, fun h => (by cases h), RowAt.nil, by simp [h1], fun i hi => by omega⟩
    · obtain ⟨b, off, spot⟩ := a
      have hall : ∀ k, k < len * fs.size → ∃ v, w.cell? ((⟨b, off, spot⟩ : Addr).add k) = some v := by
        intro k hk
        have hm : k % fs.size < fs.size := Nat.mod_lt _ h0
        obtain ⟨v, _, _, hv, _⟩ := hcell (k / fs.size) ((Nat.div_lt_iff_lt_mul h0).2 hk) (k % fs.size) _ (Array.getElem?_eq_getElem hm)
        rw [Nat.div_add_mod' k fs.size] at hv
        exact ⟨v, hv⟩
      obtain ⟨v0, hv0⟩ := hall 0 (Nat.mul_pos (by omega) h0)
      have hspot : spot = none := by simpa [Addr.add] using World.cell?_spot hv0
      subst hspot
      have hadd : ∀ j, (⟨b, off, none⟩ : Addr).add j = ⟨b, off + j, none⟩ := fun j => by unfold Addr.add; split <;> simp_all
      have hlt : b < w.heap.size := by rw [hadd] at hv0; exact block_lt_of_cell hv0
      have hget : ∀ k, k < len * fs.size → ((List.range (len * fs.size)).map fun k => (w.cell? ⟨b, off + k, none⟩).getD undef)[k]? = w.cell? ⟨b, off + k, none⟩ := by
        intro k hk
        obtain ⟨v, hv⟩ := hall k hk
        rw [hadd] at hv
        rw [List.getElem?_map, List.getElem?_range hk, hv]; simp [hv]
      refine ⟨some ⟨b, off, none⟩, len, cap, (List.range (len * fs.size)).map fun k => (w.cell? ⟨b, off + k, none⟩).getD undef, hcs, hl, hm, fun h => (by cases h), .inr ⟨b, off, rfl, hlt, fun i u hu => ?_⟩, by simp, fun i hi j f hj => ?_⟩
      · have hi : i < len * fs.size := by
          rcases Nat.lt_or_ge i (len * fs.size) with h | h
          · exact h
          · rw [List.getElem?_eq_none (by simpa using h)] at hu; cases hu
        rw [hget i hi] at hu
        exact hu
      · obtain ⟨v, y, n, hv, hy⟩ := hcell i hi j f hj
        have hjl : j < fs.size := (Array.getElem?_eq_some_iff.1 hj).1
        refine ⟨v, y, n, ?_, hy⟩
        rw [hget _ (by have := Nat.mul_le_mul_right fs.size (show i + 1 ≤ len from hi); rw [Nat.add_mul] at this; omega)]
        rw [hadd] at hv
        exact hv
/-- Elements that are there one by one are there as a list. -/
theorem list_choose {α : Type} {R : Nat → α → Prop} : ∀ (n : Nat), (∀ i, i < n → ∃ x, R i x) → ∃ l : List α, l.length = n ∧ ∀ i x, l[i]? = some x → R i x
  | 0, _ => ⟨[], rfl, fun i x h => by simp at h⟩
  | n + 1, h => by
    obtain ⟨l, hl, hr⟩ := list_choose n fun i hi => h i (by omega)
    obtain ⟨x, hx⟩ := h n (by omega)
    refine ⟨l ++ [x], by simp [hl], fun i y hy => ?_⟩
    rw [List.getElem?_append] at hy
    by_cases h1 : i < l.length
    · rw [if_pos h1] at hy; exact hr i y hy
    · rw [if_neg h1] at hy
      have : i - l.length = 0 := by
        rcases Nat.eq_zero_or_pos (i - l.length) with h | h
        · exact h
        · rw [List.getElem?_eq_none (by simp; omega)] at hy; cases hy
      rw [this] at hy
      simp at hy
      subst hy
      rw [show i = n by omega]; exact hx
end
end Go.Proofs.YthjdbmfobmnnlaaGreat

/-
  Slice expressions over slices of whatever elements; a row of elements.
-/
namespace Go.Proofs.YthjdbmfobmnnlaaGreat
open Go.RowKit

section
variable {P : Program} {t e : TypeId} {z : Value} {size bytes : Nat}
theorem Elem.sizeOf (E : Elem P t e z size bytes) (w : World) : (Go.sizeOf e).run P w = .ok size w := by
  obtain ⟨i, hi, _, hs, _⟩ := info_parts E.info
  simp [Go.sizeOf, typeInfo, hi, hs]
theorem Elem.self (E : Elem P t e z size bytes) : P.elem t = e := by
  have := E.under
  unfold Program.elem
  rw [this]
theorem Elem.under' (E : Elem P t e z size bytes) : P.underlying t = some (.slice (P.elem t)) := by rw [E.self]; exact E.under
theorem map_add_zeroS (a : Option Addr) (s : Nat) : a.map (·.add (0 * s)) = a := by
  rcases a with _ | ⟨b, off, sp⟩
  · rfl
  · simp [Addr.add]
theorem slice_toS (E : Elem P t e z size bytes) (a : Option Addr) (len cap h : Nat) (hh : h ≤ cap) (w : World) :
    (Instr.slice t (.slice a len cap) none (some (.int .i64 (h : Int))) none).run P w = .ok (.slice a h cap) w := by
  rw [run_slice_h (P := P) w t a len cap E.under' .i64 (h : Int) (by omega) (by omega), E.self, E.sizeOf]
  simp only [Result.andThen, sliced, map_add_zeroS, Int.toNat_natCast, Nat.sub_zero, ite_self]
/-- The address of 's[l:]', elements of so many cells. -/
def cutS (a : Option Addr) (cap l size : Nat) : Option Addr := if cap = l then a else a.map (·.add (l * size))
theorem slice_fromS (E : Elem P t e z size bytes) (a : Option Addr) (len cap l : Nat) (hl : l ≤ len) (w : World) :
    (Instr.slice t (.slice a len cap) (some (.int .i64 (l : Int))) none none).run P w = .ok (.slice (cutS a cap l size) (len - l) (cap - l)) w := by
  rw [run_slice_l (P := P) w t a len cap E.under' .i64 (l : Int) (by omega) (by omega), E.self, E.sizeOf]
  simp only [Result.andThen, sliced, Int.toNat_natCast, cutS]
theorem slice_midS (E : Elem P t e z size bytes) (a : Option Addr) (len cap l h : Nat) (hl : l ≤ h) (hh : h ≤ cap) (w : World) :
    (Instr.slice t (.slice a len cap) (some (.int .i64 (l : Int))) (some (.int .i64 (h : Int))) none).run P w = .ok (.slice (cutS a cap l size) (h - l) (cap - l)) w := by
  rw [run_slice_lh (P := P) w t a len cap E.under' .i64 .i64 (l : Int) (h : Int) (by omega) (by omega) (by omega), E.self, E.sizeOf]
  simp only [Result.andThen, sliced, Int.toNat_natCast, cutS]
end
theorem RowAt.cutS {w : World} {a : Option Addr} {xs : List Value} (h : RowAt w a xs) (cap l size : Nat) (hc : xs.length ≤ cap * size) : RowAt w (cutS a cap l size) (xs.drop (l * size)) := by
  unfold Proofs.YthjdbmfobmnnlaaGreat.cutS
  by_cases e : cap = l
  · rw [if_pos e, List.drop_of_length_le (by rw [← e]; exact hc)]; exact .nil
  · rw [if_neg e]
    rcases h with rfl | ⟨b, off, rfl, hlt, hx⟩
    · rw [List.drop_nil]; exact .nil
    · have hadd : (⟨b, off, none⟩ : Addr).add (l * size) = ⟨b, off + l * size, none⟩ := by unfold Addr.add; split <;> simp_all
      rw [Option.map_some, hadd]
      exact RowAt.drop (.inr ⟨b, off, rfl, hlt, hx⟩) (l * size)
theorem cutS_none {a : Option Addr} {cap l size n : Nat} (h : a = none → n = 0) : cutS a cap l size = none → n - l = 0 := by
  unfold cutS
  intro e
  have : a = none := by
    by_cases hc : cap = l
    · rwa [if_pos hc] at e
    · rw [if_neg hc] at e; cases a with
      | none => rfl
      | some x => cases e
  rw [h this, Nat.zero_sub]
end Go.Proofs.YthjdbmfobmnnlaaGreat

/-
  Layer 4: entries.rising.
-/
namespace Go.Proofs.YthjdbmfobmnnlaaGreat
open Go.RowKit
set_option linter.unusedVariables false
/-- An entry of a row, cell by cell. -/
theorem entry_at {w : World} {a : Option Addr} {es : List En} (hr : RowAt w a (ensV es)) {k : Nat} (hk : k < es.length) :
    ∃ b off, a = some ⟨b, off, none⟩ ∧ b < w.heap.size ∧ ∀ j u, (enV es[k])[j]? = some u → w.cell? ⟨b, off + (k * 7 + j), none⟩ = some u := by
  rcases hr with h | ⟨b, off, ha, hlt, hc⟩
  · have := congrArg List.length h
    rw [ensV_length] at this
    simp at this
    omega
  · refine ⟨b, off, ha, hlt, fun j u hj => hc _ _ ?_⟩
    have hj7 : j < 7 := by
      rcases Nat.lt_or_ge j 7 with h | h
      · exact h
      · rw [List.getElem?_eq_none (by rw [enV_length]; exact h)] at hj; cases hj
    rw [ensV_at hk hj7]; exact hj
theorem entry_cells {w : World} {a : Option Addr} {es : List En} (hr : RowAt w a (ensV es)) {k : Nat} (hk : k < es.length) :
    ∃ b off, a = some ⟨b, off, none⟩ ∧ b < w.heap.size ∧ w.cell? ⟨b, off + k * 7, none⟩ = some (.int .i64 (es[k]).1) ∧ w.cell? ⟨b, off + k * 7 + 1, none⟩ = some (.int .i64 (es[k]).2.1) ∧ w.cell? ⟨b, off + k * 7 + 2, none⟩ = some (.int .i64 (es[k]).2.2.1) ∧
      w.cell? ⟨b, off + k * 7 + 3, none⟩ = some (.int .i64 (es[k]).2.2.2.1) ∧ w.cell? ⟨b, off + k * 7 + 4, none⟩ = some (.int .i64 (es[k]).2.2.2.2.1) ∧ w.cell? ⟨b, off + k * 7 + 5, none⟩ = some (.int .i64 (es[k]).2.2.2.2.2.1) ∧ w.cell? ⟨b, off + k * 7 + 6, none⟩ = some (.int .i64 (es[k]).2.2.2.2.2.2) := by
  obtain ⟨b, off, ha, hlt, hc⟩ := entry_at hr hk
  have e : ∀ j, off + k * 7 + j = off + (k * 7 + j) := fun j => by omega
  refine ⟨b, off, ha, hlt, ?_⟩
  rw [e 1, e 2, e 3, e 4, e 5, e 6]
  exact ⟨hc 0 _ rfl, hc 1 _ rfl, hc 2 _ rfl, hc 3 _ rfl, hc 4 _ rfl, hc 5 _ rfl, hc 6 _ rfl⟩
theorem rising_go {es : List En} {f : Int} {k : Nat} (hk : k < es.length) (h1 : 1 ≤ (es[k]).1) (h2 : endT (es.take k) f ≤ (es[k]).1) (h3 : (es[k]).1 ≤ 1073741824) (h : rising (es.take k) f = true) : rising (es.take (k + 1)) f = true := by
  rw [List.take_add_one, List.getElem?_eq_getElem hk, rising_append, h]
  simp [rising, h1, h2, h3]
theorem wrap_next {k n : Nat} (h : k < n) (hm : n ≤ maxLen) : wrap64 ((k : Int) + 1) = ((k + 1 : Nat) : Int) := by
  unfold maxLen at hm
  unfold wrap64
  omega
theorem measure_next {k n : Nat} (hw : wrap64 ((k : Int) + 1) = ((k + 1 : Nat) : Int)) (h : k < n) : n - (intOf (.int .i64 (wrap64 ((k : Int) + 1)))).toNat < n - (intOf (.int .i64 (k : Int))).toNat := by
  rw [hw]
  show n - (((k + 1 : Nat) : Int)).toNat < n - ((k : Int)).toNat
  omega
set_option maxHeartbeats 1600000 in
theorem rising_any (a : Option Addr) (cap : Nat) (es : List En) (f : Int) (w : World) (hr : RowAt w a (ensV es)) (hm : es.length ≤ maxLen) :
    Calls Tryz.prog 126 #[.slice a es.length cap, .int .i64 f] w fun e w' => e = .returned (.bool (rising es f)) ∧ Below w.heap.size w w' := by
  have HM := Lib.hid hm
  clear hm
  go_enter Tryz.func126, Tryz.ntmps126
  go_wp2
  go_loopw [1, 9] (fun v i wr => ∃ (k : Nat) (g : Int), k ≤ es.length ∧ i = .int .i64 k ∧ v = .int .i64 g ∧ Hid (endT (es.take k) f = g) ∧ Hid (rising (es.take k) f = true) ∧ Below w.heap.size w wr) (fun _ i _ => es.length - (intOf i).toNat)
  case atStart => exact ⟨0, f, by omega, rfl, rfl, rfl, rfl, Below.refl _ _⟩
  case round =>
    obtain ⟨k, g, hk, rfl, rfl, HG, HR, hb⟩ := hrel
    by_cases hlt : k < es.length
    · obtain ⟨b, off, rfl, hblt, hc⟩ := entry_cells (hr.below hb) hlt
      have HA : Hid (es[k]? = some (es[k]'hlt)) := List.getElem?_eq_getElem hlt
      have HF : Hid (¬ (1 ≤ (es[k]).1 ∧ g ≤ (es[k]).1 ∧ (es[k]).1 ≤ 1073741824) → rising es f = false) := fun h => rising_false hlt (by rw [HG.out]; exact h)
      have HT : Hid (1 ≤ (es[k]).1 ∧ g ≤ (es[k]).1 ∧ (es[k]).1 ≤ 1073741824 → rising (es.take (k + 1)) f = true) := fun h => rising_go hlt h.1 (by rw [HG.out]; exact h.2.1) h.2.2 HR.out
      have HE : Hid (endT (es.take (k + 1)) f = (es[k]).1) := endT_take hlt f
      generalize (es[k]'hlt) = x at hc HA HF HT HE
      obtain ⟨t, c1, c2, c3, c4, c5, c6⟩ := x
      simp only at hc HA HF HT HE
      obtain ⟨hc0, hc1, hc2, hc3, hc4, hc5, hc6⟩ := hc
      have hk0 : (0 : Int) ≤ (k : Int) := by omega
      have HW : Hid (wrap64 ((k : Int) + 1) = ((k + 1 : Nat) : Int)) := wrap_next hlt HM.out
      have hk1 : (k : Int) < (es.length : Int) := by omega
      by_cases hg : 1 ≤ g
      · by_cases h1 : t < g
        · have HO := Lib.hid (HF.out (by omega))
          clear HF HT HE HA
          go_wp2
          go_ret
          exact ⟨by rw [HO.out]; rfl, hb.alloc hb.size _⟩
        by_cases h2 : 1073741824 < t
        · have HO := Lib.hid (HF.out (by omega))
          clear HF HT HE HA
          go_wp2
          go_ret
          exact ⟨by rw [HO.out]; rfl, hb.alloc hb.size _⟩
        have HT2 := Lib.hid (HT.out (by omega))
        clear HF HT HA
        go_wp2
        go_roundw
        case rel => exact ⟨k + 1, t, by omega, by rw [HW.out], rfl, HE, HT2, hb.alloc hb.size _⟩
        case measure => exact measure_next HW.out hlt
      · by_cases h1 : t < 1
        · have HO := Lib.hid (HF.out (by omega))
          clear HF HT HE HA
          go_wp2
          go_ret
          exact ⟨by rw [HO.out]; rfl, hb.alloc hb.size _⟩
        by_cases h2 : 1073741824 < t
        · have HO := Lib.hid (HF.out (by omega))
          clear HF HT HE HA
          go_wp2
          go_ret
          exact ⟨by rw [HO.out]; rfl, hb.alloc hb.size _⟩
        have HT2 := Lib.hid (HT.out (by omega))
        clear HF HT HA
        go_wp2
        go_roundw
        case rel => exact ⟨k + 1, t, by omega, by rw [HW.out], rfl, HE, HT2, hb.alloc hb.size _⟩
        case measure => exact measure_next HW.out hlt
    · have hek : k = es.length := by omega
      have HO : Hid (rising es f = true) := by have := HR.out; rwa [hek, List.take_length] at this
      clear hek
      go_wp2
      go_ret
      exact ⟨by rw [HO.out]; rfl, hb⟩
end Go.Proofs.YthjdbmfobmnnlaaGreat

/-
  Layer 4: which log may be.
-/
namespace Go.Proofs.YthjdbmfobmnnlaaGreat
open Go.RowKit
set_option linter.unusedVariables false
/-- A log that came in, or that is the call's own. -/
structure LogIn (w : World) (a : Option Addr) (cap : Nat) (es : List En) : Prop where
  row : RowAt w a (ensV es)
  cap : es.length ≤ cap
  none_ : a = none → es.length = 0
  max : es.length ≤ maxLen
theorem LogIn.below {w w' : World} {a : Option Addr} {cap : Nat} {es : List En} (h : LogIn w a cap es) (hb : Below w.heap.size w w') : LogIn w' a cap es := ⟨h.row.below hb, h.cap, h.none_, h.max⟩
abbrev logV (b t : Int) (a : Option Addr) (n cap : Nat) : Value := .agg #[.int .i64 b, .int .i64 t, .slice a n cap]
theorem may_no {b t : Int} {es : List En} (h : ¬ (0 ≤ b ∧ b ≤ 1099511627776 ∧ 0 ≤ t ∧ t ≤ 1073741824 ∧ (b = 0 → t = 0) ∧ es.length ≤ 64)) : mayL b t es = false := by
  cases hm : mayL b t es with
  | false => rfl
  | true => obtain ⟨h1, h2, h3, h4, h5, h6, _⟩ := mayL_true hm; exact absurd ⟨h1, h2, h3, h4, h5, h6⟩ h
theorem may_yes {b t : Int} {es : List En} (h : 0 ≤ b ∧ b ≤ 1099511627776 ∧ 0 ≤ t ∧ t ≤ 1073741824 ∧ (b = 0 → t = 0) ∧ es.length ≤ 64) : mayL b t es = rising es t := by
  unfold mayL
  rw [decide_eq_true h]
  rfl
/-- A block of three cells that was made ahead of what followed. -/
theorem three_cells {w w1 : World} {x y z : Value} {t : TypeId} (hb : Below (w.alloc (.cells #[x, y, z] t)).heap.size (w.alloc (.cells #[x, y, z] t)) w1) :
    w1.cell? ⟨w.heap.size, 0, none⟩ = some x ∧ w1.cell? ⟨w.heap.size, 1, none⟩ = some y ∧ w1.cell? ⟨w.heap.size, 2, none⟩ = some z ∧ w1.frozen? ⟨w.heap.size, 0, none⟩ = false ∧ w1.frozen? ⟨w.heap.size, 1, none⟩ = false ∧ w1.frozen? ⟨w.heap.size, 2, none⟩ = false ∧ w.heap.size < w1.heap.size := by
  have hs : w.heap.size < (w.alloc (.cells #[x, y, z] t)).heap.size := by simp
  have e : ∀ i, w1.cell? ⟨w.heap.size, i, none⟩ = (#[x, y, z] : Array Value)[i]? := fun i => by
    rw [hb.cell (p := ⟨w.heap.size, i, none⟩) hs]
    exact cell_of_row _ _ _ _ _ (0, 0) (heap_alloc_new w _)
  have g : ∀ i, w1.frozen? ⟨w.heap.size, i, none⟩ = false := fun i => by
    rw [hb.frozen (p := ⟨w.heap.size, i, none⟩) hs]
    exact frozen_of_row _ _ _ _ _ (heap_alloc_new w _)
  exact ⟨e 0, e 1, e 2, g 0, g 1, g 2, Nat.lt_of_lt_of_le hs hb.size⟩
set_option maxHeartbeats 1600000 in
theorem may_any (b t : Int) (a : Option Addr) (cap : Nat) (es : List En) (w : World) (hl : LogIn w a cap es) :
    Calls Tryz.prog 79 #[logV b t a es.length cap] w fun e w' => e = .returned (.bool (mayL b t es)) ∧ Below w.heap.size w w' := by
  by_cases h0 : 0 ≤ b ∧ b ≤ 1099511627776 ∧ 0 ≤ t ∧ t ≤ 1073741824 ∧ (b = 0 → t = 0) ∧ es.length ≤ 64
  · rw [may_yes h0]
    obtain ⟨h1, h2, h3, h4, h5, h6⟩ := h0
    have HR : Hid (∀ o, Calls Tryz.prog 126 #[.slice a es.length cap, .int .i64 t] (w.alloc o) fun e w' => e = .returned (.bool (rising es t)) ∧ Below (w.alloc o).heap.size (w.alloc o) w') := fun o => rising_any a cap es t _ (hl.row.alloc o) hl.max
    generalize rising es t = R at HR
    have h6' : (es.length : Int) ≤ 64 := by omega
    clear hl
    by_cases hz : b = 0
    · obtain rfl := h5 hz
      subst hz
      clear h5 h1 h2 h3 h4
      go_enter Tryz.func79, Tryz.ntmps79
      go_wp2_with (go_at_call 126; refine (HR.out _).mono ?_; rintro e w1 ⟨rfl, hb1⟩)
      go_ret
      exact ⟨rfl, alloc_below hb1⟩
    · clear h5
      go_enter Tryz.func79, Tryz.ntmps79
      go_wp2_with (go_at_call 126; refine (HR.out _).mono ?_; rintro e w1 ⟨rfl, hb1⟩)
      go_ret
      exact ⟨rfl, alloc_below hb1⟩
  · rw [may_no h0]
    have hi0 : (0 : Int) ≤ es.length := by omega
    have H0 : Hid (0 ≤ b → b ≤ 1099511627776 → 0 ≤ t → t ≤ 1073741824 → ¬ (b = 0 ∧ t ≠ 0) → (64 : Int) < es.length) := by intro g1 g2 g3 g4 g5; omega
    clear hl h0
    by_cases h1 : b < 0
    · go_enter Tryz.func79, Tryz.ntmps79
      go_wp2
      go_ret
      exact ⟨rfl, (Below.refl _ _).alloc (Nat.le_refl _) _⟩
    by_cases h2 : 1099511627776 < b
    · go_enter Tryz.func79, Tryz.ntmps79
      go_wp2
      go_ret
      exact ⟨rfl, (Below.refl _ _).alloc (Nat.le_refl _) _⟩
    by_cases h3 : t < 0
    · go_enter Tryz.func79, Tryz.ntmps79
      go_wp2
      go_ret
      exact ⟨rfl, (Below.refl _ _).alloc (Nat.le_refl _) _⟩
    by_cases h4 : 1073741824 < t
    · go_enter Tryz.func79, Tryz.ntmps79
      go_wp2
      go_ret
      exact ⟨rfl, (Below.refl _ _).alloc (Nat.le_refl _) _⟩
    by_cases h5 : b = 0
    · subst h5
      by_cases h6 : t = 0
      · subst h6
        have h7 := H0.out (by omega) (by omega) (by omega) (by omega) (by simp)
        clear H0 h1 h2 h3 h4
        go_enter Tryz.func79, Tryz.ntmps79
        go_wp2
        go_ret
        exact ⟨rfl, (Below.refl _ _).alloc (Nat.le_refl _) _⟩
      · have h7 : (t != 0) = true := by simpa using h6
        clear h1 h2
        go_enter Tryz.func79, Tryz.ntmps79
        go_wp2
        go_ret
        exact ⟨rfl, (Below.refl _ _).alloc (Nat.le_refl _) _⟩
    · have h7 := H0.out (by omega) (by omega) (by omega) (by omega) (fun h => h5 h.1)
      have h8 : (b == 0) = false := by simpa using h5
      clear H0
      go_enter Tryz.func79, Tryz.ntmps79
      go_wp2
      go_ret
      exact ⟨rfl, (Below.refl _ _).alloc (Nat.le_refl _) _⟩
end Go.Proofs.YthjdbmfobmnnlaaGreat

/-
  Layer 4: a log that may be, or none.
-/
namespace Go.Proofs.YthjdbmfobmnnlaaGreat
open Go.RowKit
set_option linter.unusedVariables false
set_option maxHeartbeats 1600000 in
theorem fair_yes (b t : Int) (a : Option Addr) (cap : Nat) (es : List En) (w : World) (hl : LogIn w a cap es) (hm : mayL b t es = true) :
    Calls Tryz.prog 35 #[logV b t a es.length cap] w fun e w' => e = .returned (logV b t a es.length cap) ∧ Below w.heap.size w w' := by
  have HM : Hid (∀ W, Below w.heap.size w W → Calls Tryz.prog 79 #[logV b t a es.length cap] W fun e w' => e = .returned (.bool true) ∧ Below W.heap.size W w') := fun W h => by have := may_any b t a cap es W (hl.below h); rwa [hm] at this
  clear hl hm
  go_enter Tryz.func35, Tryz.ntmps35
  go_wp2_with (go_at_call 79; refine (HM.out _ (below2 _ _ _)).mono ?_; rintro e w1 ⟨rfl, hb1⟩; have hF := blk_keep hb1 (alloc2_fst _ _ _); have hG := blk_keep hb1 (alloc2_snd _ _ _); obtain ⟨hc0, hc1, hc2, _, _, _, hlt⟩ := box3 hF; obtain ⟨gc0, gc1, gc2, gf0, gf1, gf2, hlt2⟩ := box3 hG)
  obtain ⟨k0, k1, k2, _⟩ := box3 (set3_blk hG (.int .i64 b) (.int .i64 t) (.slice a es.length cap))
  refine bodyPost_ret (v := logV b t a es.length cap) (by simp [results, Tryz.results35, go_sem, k0, k1, k2]) rfl ?_
  exact ⟨rfl, set3_below (alloc2_below hb1) (by omega) _ _ _⟩
set_option maxHeartbeats 1600000 in
theorem fair_no (b t : Int) (a : Option Addr) (cap : Nat) (es : List En) (w : World) (hl : LogIn w a cap es) (hm : mayL b t es = false) :
    Calls Tryz.prog 35 #[logV b t a es.length cap] w fun e w' => e = .returned (logV 0 0 none 0 0) ∧ Below w.heap.size w w' := by
  have HM : Hid (∀ W, Below w.heap.size w W → Calls Tryz.prog 79 #[logV b t a es.length cap] W fun e w' => e = .returned (.bool false) ∧ Below W.heap.size W w') := fun W h => by have := may_any b t a cap es W (hl.below h); rwa [hm] at this
  clear hl hm
  go_enter Tryz.func35, Tryz.ntmps35
  go_wp2_with (go_at_call 79; refine (HM.out _ (below2 _ _ _)).mono ?_; rintro e w1 ⟨rfl, hb1⟩; have hF := blk_keep hb1 (alloc2_fst _ _ _); have hG := blk_keep hb1 (alloc2_snd _ _ _); obtain ⟨hc0, hc1, hc2, _, _, _, hlt⟩ := box3 hF; obtain ⟨gc0, gc1, gc2, gf0, gf1, gf2, hlt2⟩ := box3 hG)
  obtain ⟨k0, k1, k2, _⟩ := box3 (set3_blk hG (.int .i64 0) (.int .i64 0) (.slice none 0 0))
  refine bodyPost_ret (v := logV 0 0 none 0 0) (by simp [results, Tryz.results35, go_sem, k0, k1, k2]) rfl ?_
  exact ⟨rfl, set3_below (alloc2_below hb1) (by omega) _ _ _⟩
end Go.Proofs.YthjdbmfobmnnlaaGreat

/-
  Layer 4: the term of an index.
-/
namespace Go.Proofs.YthjdbmfobmnnlaaGreat
open Go.RowKit
set_option linter.unusedVariables false
/-- A log, or none, if it may not be. -/
def fairL (b t : Int) (es : List En) : Int × Int × List En := if mayL b t es = true then (b, t, es) else (0, 0, [])
theorem fairL_yes {b t : Int} {es : List En} (h : mayL b t es = true) : fairL b t es = (b, t, es) := if_pos h
theorem fairL_no {b t : Int} {es : List En} (h : mayL b t es = false) : fairL b t es = (0, 0, []) := by unfold fairL; rw [if_neg (by rw [h]; decide)]
theorem mayL_zero : mayL 0 0 [] = true := by decide
theorem fairL_may (b t : Int) (es : List En) : mayL (fairL b t es).1 (fairL b t es).2.1 (fairL b t es).2.2 = true := by
  unfold fairL
  by_cases h : mayL b t es = true
  · rw [if_pos h]; exact h
  · rw [if_neg h]; exact mayL_zero
theorem LogIn.zero (w : World) : LogIn w none 0 [] := ⟨RowAt.nil, Nat.le_refl _, fun _ => rfl, Nat.zero_le _⟩
/-- Where its entries lie. -/
def fairA (b t : Int) (es : List En) (a : Option Addr) (cap : Nat) : Option Addr × Nat := if mayL b t es = true then (a, cap) else (none, 0)
theorem LogIn.fair {w : World} {a : Option Addr} {cap : Nat} {es : List En} (h : LogIn w a cap es) (b t : Int) : LogIn w (fairA b t es a cap).1 (fairA b t es a cap).2 (fairL b t es).2.2 := by
  unfold fairA fairL
  by_cases hm : mayL b t es = true
  · rw [if_pos hm, if_pos hm]; exact h
  · rw [if_neg hm, if_neg hm]; exact LogIn.zero w
theorem fair_any (b t : Int) (a : Option Addr) (cap : Nat) (es : List En) (w : World) (hl : LogIn w a cap es) :
    Calls Tryz.prog 35 #[logV b t a es.length cap] w fun e w' => e = .returned (logV (fairL b t es).1 (fairL b t es).2.1 (fairA b t es a cap).1 (fairL b t es).2.2.length (fairA b t es a cap).2) ∧ Below w.heap.size w w' := by
  cases hm : mayL b t es with
  | true =>
    rw [fairL_yes hm, show fairA b t es a cap = (a, cap) from if_pos hm]
    exact fair_yes b t a cap es w hl hm
  | false =>
    rw [fairL_no hm, show fairA b t es a cap = (none, 0) from if_neg (by rw [hm]; decide)]
    exact fair_no b t a cap es w hl hm
/-- The term of an index. -/
def termF (b t : Int) (es : List En) (i : Int) : Int × Bool := termL (fairL b t es).1 (fairL b t es).2.1 (fairL b t es).2.2 i
set_option maxHeartbeats 1600000 in
theorem term_any (b t : Int) (a : Option Addr) (cap : Nat) (es : List En) (i : Int) (w : World) (hl : LogIn w a cap es) :
    Calls Tryz.prog 36 #[logV b t a es.length cap, .int .i64 i] w fun e w' => e = .returned (.tuple #[.int .i64 (termF b t es i).1, .bool (termF b t es i).2]) ∧ Below w.heap.size w w' := by
  have HM : Hid (∀ W, Below w.heap.size w W → Calls Tryz.prog 35 #[logV b t a es.length cap] W fun e w' => e = .returned (logV (fairL b t es).1 (fairL b t es).2.1 (fairA b t es a cap).1 (fairL b t es).2.2.length (fairA b t es a cap).2) ∧ Below W.heap.size W w') := fun W h => fair_any b t a cap es W (hl.below h)
  have hmay := fairL_may b t es
  have hlf := hl.fair b t
  unfold termF
  clear hl
  generalize fairA b t es a cap = A at HM hlf
  generalize fairL b t es = l at HM hmay hlf
  obtain ⟨B, T, l⟩ := l
  obtain ⟨a', cap'⟩ := A
  simp only at HM hmay hlf
  obtain ⟨h1, h2, _, _, _, h6, _⟩ := mayL_true hmay
  simp only at h1 h2 h6 ⊢
  have h6' : (l.length : Int) ≤ 64 := by omega
  clear hmay
  by_cases e1 : i = B
  · subst e1
    have HT : Hid (termL i T l i = (T, true)) := by rw [Hid]; unfold termL; rw [if_pos rfl]
    rw [HT.out]
    dsimp only
    clear HT
    go_enter Tryz.func36, Tryz.ntmps36
    go_wp2_with (go_at_call 35; refine (HM.out _ (below1 _ _)).mono ?_; rintro e w1 ⟨rfl, hb1⟩; have hF := blk_keep hb1 (blk_new _ _); obtain ⟨hc0, hc1, hc2, hf0, hf1, hf2, hlt⟩ := box3 hF)
    go_ret2
    exact ⟨rfl, set3_below (alloc_below hb1) (Nat.le_refl _) _ _ _⟩
  have e1' : (i == B) = false := by simpa using e1
  by_cases e2 : i < B
  · have HT := Lib.hid (termL_out (t := T) (es := l) (b := B) (i := i) (.inl e2))
    rw [HT.out]
    dsimp only
    clear HT
    clear e1
    go_enter Tryz.func36, Tryz.ntmps36
    go_wp2_with (go_at_call 35; refine (HM.out _ (below1 _ _)).mono ?_; rintro e w1 ⟨rfl, hb1⟩; have hF := blk_keep hb1 (blk_new _ _); obtain ⟨hc0, hc1, hc2, hf0, hf1, hf2, hlt⟩ := box3 hF)
    go_ret2
    exact ⟨rfl, set3_below (alloc_below hb1) (Nat.le_refl _) _ _ _⟩
  by_cases e3 : B + (l.length : Int) < i
  · have HT := Lib.hid (termL_out (t := T) (es := l) (b := B) (i := i) (.inr e3))
    rw [HT.out]
    dsimp only
    clear HT
    clear e1
    go_enter Tryz.func36, Tryz.ntmps36
    go_wp2_with (go_at_call 35; refine (HM.out _ (below1 _ _)).mono ?_; rintro e w1 ⟨rfl, hb1⟩; have hF := blk_keep hb1 (blk_new _ _); obtain ⟨hc0, hc1, hc2, hf0, hf1, hf2, hlt⟩ := box3 hF)
    go_ret2
    exact ⟨rfl, set3_below (alloc_below hb1) (Nat.le_refl _) _ _ _⟩
  · have hk : (i - B).toNat - 1 < l.length := by omega
    have hke : (i - B - 1).toNat = (i - B).toNat - 1 := by omega
    have HT : Hid (termL B T l i = ((l[(i - B).toNat - 1]'hk).1, true)) := by
      unfold termL
      rw [Hid, if_neg e1, if_neg (by omega), hke, List.getD_eq_getElem?_getD, List.getElem?_eq_getElem hk]
      rfl
    rw [HT.out]
    dsimp only
    clear HT
    obtain ⟨g, off, rfl, hg, hcx, hxx⟩ := entry_cells hlf.row hk
    clear hxx
    generalize (l[(i - B).toNat - 1]'hk).1 = X at hcx
    have hx0 : 0 ≤ i - B - 1 := by omega
    have hx1 : i - B - 1 < l.length := by omega
    clear e1 hk hke
    go_enter Tryz.func36, Tryz.ntmps36
    go_wp2_with (go_at_call 35; refine (HM.out _ (below1 _ _)).mono ?_; rintro e w1 ⟨rfl, hb1⟩; have hF := blk_keep hb1 (blk_new _ _); obtain ⟨hc0, hc1, hc2, hf0, hf1, hf2, hlt⟩ := box3 hF; have hcx1 := ((bcell (alloc_below hb1)).1 _ _ hg).trans hcx)
    go_ret2
    exact ⟨rfl, set3_below (alloc_below hb1) (Nat.le_refl _) _ _ _⟩
end Go.Proofs.YthjdbmfobmnnlaaGreat
